/- A part of the proof of CatalogueCellsCardSaid: lemmas on the way (AmJaa). Conditions: none of ours. -/
import Derived.Test.YtnjlnnbepabfcaaGreatDoorProg
import Derived.KernelRfl
import Derived.Test.YtnjlnnbepabfcaaGreatDoorAmZ7
set_option linter.unusedSectionVars false
set_option maxRecDepth 100000
namespace Go.AM.JA
open Go.Proofs
def f3 : FFn := ⟨37, [.tmp 4],
 (.seq (.region [⟨true, ⟨(some 4), .mov (.c (.bool false)), [], none⟩⟩] [] 16)
 (.seq (.seq (.region [⟨true, ⟨(some 9), .call .pure (.f 9) [], [], none⟩⟩,
   ⟨true, ⟨(some 10), .un .not (.t 9), [0], none⟩⟩] [] 512)
 (.cond (.t 10)
  (.seq (.region [⟨true, ⟨(some 4), .mov (.c (.bool false)), [], none⟩⟩] [] 1027)
  .ret)
  .skip))
 (.seq (.region [⟨true, ⟨(some 12), .mov (.t 0), [], none⟩⟩,
   ⟨true, ⟨(some 13), .mov (.t 1), [], none⟩⟩,
   ⟨true, ⟨(some 14), .call .pure (.f 10) [(.t 12), (.t 13)], [0, 1], none⟩⟩,
   ⟨true, ⟨(some 11), .mov (.t 14), [2], none⟩⟩,
   ⟨true, ⟨(some 15), .extract 0 (.t 11), [3], none⟩⟩,
   ⟨true, ⟨(some 16), .extract 1 (.t 11), [3], none⟩⟩,
   ⟨true, ⟨(some 5), .mov (.t 15), [4, 2, 0, 1, 2, 3, 4], none⟩⟩,
   ⟨true, ⟨(some 6), .mov (.t 16), [5, 6, 0, 1, 2, 3, 4, 5, 6], none⟩⟩] [] 130067)
 (.seq (.region [⟨true, ⟨(some 18), .mov (.t 5), [], none⟩⟩,
   ⟨true, ⟨(some 19), .mov (.t 6), [], none⟩⟩,
   ⟨true, ⟨(some 20), .call .pure (.f 11) [(.t 18), (.t 19)], [0, 1], none⟩⟩,
   ⟨true, ⟨(some 17), .mov (.t 20), [2], none⟩⟩,
   ⟨true, ⟨(some 21), .extract 0 (.t 17), [3], none⟩⟩,
   ⟨true, ⟨(some 22), .extract 1 (.t 17), [3], none⟩⟩,
   ⟨true, ⟨(some 7), .alloc .dyn (.agg [.nilsl, .nilsl, .nilsl, .nilsl, .nilsl]), [], none⟩⟩,
   ⟨false, ⟨none, .store 5 (.t 7) (.t 21), [6, 4, 2, 0, 1, 2, 3, 4, 6], none⟩⟩,
   ⟨true, ⟨(some 8), .mov (.t 22), [5, 7, 0, 1, 2, 3, 4, 5, 6, 7], none⟩⟩] [] 8257536)
 (.seq (.region [⟨true, ⟨(some 23), .mov (.t 8), [], none⟩⟩,
   ⟨true, ⟨(some 24), .bin .eql (.t 23) (.c (.int .i64 (.ofNat 0))), [0], none⟩⟩,
   ⟨true, ⟨(some 25), .mov (.t 24), [1], none⟩⟩,
   ⟨true, ⟨(some 26), .load (some 5) (.t 7), [2], (some (25, true))⟩⟩,
   ⟨true, ⟨(some 27), .mov (.t 5), [2], (some (25, true))⟩⟩,
   ⟨true, ⟨(some 28), .mov (.t 6), [2], (some (25, true))⟩⟩,
   ⟨true, ⟨(some 29), .call .pure (.f 13) [(.t 27), (.t 28)], [4, 5, 2, 2], (some (25, true))⟩⟩,
   ⟨true, ⟨(some 30), .call .heap (.f 12) [(.t 26), (.t 29)], [3, 6, 6, 2], (some (25, true))⟩⟩,
   ⟨true, ⟨(some 31), .pick (.t 25) (.t 30) (.c (.bool false)), [2, 7], none⟩⟩,
   ⟨true, ⟨(some 32), .mov (.t 31), [8, 7], none⟩⟩,
   ⟨true, ⟨(some 33), .load (some 5) (.t 7), [9], (some (32, true))⟩⟩,
   ⟨true, ⟨(some 34), .call .heap (.f 14) [(.t 33)], [10, 9, 9], (some (32, true))⟩⟩,
   ⟨true, ⟨(some 35), .bin .eql (.t 34) (.c (.int .i64 (.ofNat 0))), [11, 9], (some (32, true))⟩⟩,
   ⟨true, ⟨(some 36), .pick (.t 32) (.t 35) (.c (.bool false)), [9, 12], none⟩⟩,
   ⟨true, ⟨(some 4), .mov (.t 36), [13, 11, 0, 1, 2, 3, 4, 5, 6, 7, 8, 9, 10, 11, 12, 13], none⟩⟩] [] 137430565344)
 .ret)))))⟩
def f9 : FFn := ⟨123, [.tmp 0],
 (.seq (.region [⟨true, ⟨(some 0), .mov (.c (.bool false)), [], none⟩⟩] [] 1)
 (.seq (.region [⟨true, ⟨(some 15), .call .pure (.f 11) [(.c (.int .i64 (.ofNat 1))), (.c (.int .i64 (.ofNat 1)))], [], none⟩⟩,
   ⟨true, ⟨(some 14), .mov (.t 15), [0], none⟩⟩,
   ⟨true, ⟨(some 16), .extract 0 (.t 14), [1], none⟩⟩,
   ⟨true, ⟨(some 17), .extract 1 (.t 14), [1], none⟩⟩,
   ⟨true, ⟨(some 1), .alloc .dyn (.agg [.nilsl, .nilsl, .nilsl, .nilsl, .nilsl]), [], none⟩⟩,
   ⟨false, ⟨none, .store 5 (.t 1) (.t 16), [4, 2, 0, 0, 1, 2, 4], none⟩⟩,
   ⟨true, ⟨(some 2), .mov (.t 17), [3, 5, 0, 1, 2, 3, 4, 5], none⟩⟩] [] 245760)
 (.seq (.region [⟨true, ⟨(some 19), .call .heap (.f 18) [(.c (.int .i64 (.ofNat 1))), (.c (.int .i64 (.ofNat 1)))], [], none⟩⟩,
   ⟨true, ⟨(some 18), .mov (.t 19), [0], none⟩⟩,
   ⟨true, ⟨(some 20), .extract 0 (.t 18), [1], none⟩⟩,
   ⟨true, ⟨(some 21), .extract 1 (.t 18), [1], none⟩⟩,
   ⟨true, ⟨(some 3), .alloc .dyn (.agg [(.int .i64 (.ofNat 0)), (.int .i64 (.ofNat 0)), (.int .i64 (.ofNat 0)), (.int .i64 (.ofNat 0)), .nilsl]), [], none⟩⟩,
   ⟨false, ⟨none, .store 5 (.t 3) (.t 20), [4, 2, 0, 0, 1, 2, 4], none⟩⟩,
   ⟨true, ⟨(some 4), .mov (.t 21), [3, 5, 0, 1, 2, 3, 4, 5], none⟩⟩] [] 3932160)
 (.seq (.region [⟨true, ⟨(some 23), .call .pure (.f 11) [(.c (.int .i64 (.ofNat 3))), (.c (.int .i64 (.ofNat 2)))], [], none⟩⟩,
   ⟨true, ⟨(some 22), .mov (.t 23), [0], none⟩⟩,
   ⟨true, ⟨(some 24), .extract 0 (.t 22), [1], none⟩⟩,
   ⟨true, ⟨(some 25), .extract 1 (.t 22), [1], none⟩⟩,
   ⟨true, ⟨(some 5), .alloc .dyn (.agg [.nilsl, .nilsl, .nilsl, .nilsl, .nilsl]), [], none⟩⟩,
   ⟨false, ⟨none, .store 5 (.t 5) (.t 24), [4, 2, 0, 0, 1, 2, 4], none⟩⟩,
   ⟨true, ⟨(some 6), .mov (.t 25), [3, 5, 0, 1, 2, 3, 4, 5], none⟩⟩] [] 62914560)
 (.seq (.region [⟨true, ⟨(some 27), .call .heap (.f 31) [(.c (.int .i64 (.ofNat 3)))], [], none⟩⟩,
   ⟨true, ⟨(some 26), .mov (.t 27), [0], none⟩⟩,
   ⟨true, ⟨(some 28), .extract 0 (.t 26), [1], none⟩⟩,
   ⟨true, ⟨(some 29), .extract 1 (.t 26), [1], none⟩⟩,
   ⟨true, ⟨(some 7), .alloc .dyn (.agg [(.int .i64 (.ofNat 0)), (.int .i64 (.ofNat 0)), .nilsl, .nilsl]), [], none⟩⟩,
   ⟨false, ⟨none, .store 4 (.t 7) (.t 28), [4, 2, 0, 0, 1, 2, 4], none⟩⟩,
   ⟨true, ⟨(some 8), .mov (.t 29), [3, 5, 0, 1, 2, 3, 4, 5], none⟩⟩] [] 1006632960)
 (.seq (.region [⟨true, ⟨(some 31), .call .heap (.f 15) [(.c (.int .i64 (.ofNat 0)))], [], none⟩⟩,
   ⟨true, ⟨(some 30), .mov (.t 31), [0], none⟩⟩,
   ⟨true, ⟨(some 32), .extract 0 (.t 30), [1], none⟩⟩,
   ⟨true, ⟨(some 33), .extract 1 (.t 30), [1], none⟩⟩,
   ⟨true, ⟨(some 34), .extract 2 (.t 30), [1], none⟩⟩,
   ⟨true, ⟨(some 35), .extract 3 (.t 30), [1], none⟩⟩,
   ⟨true, ⟨(some 36), .extract 4 (.t 30), [1], none⟩⟩,
   ⟨true, ⟨(some 10), .alloc .dyn (.agg [.nilsl, (.int .i64 (.ofNat 0)), .nilsl, .nilsl]), [], none⟩⟩,
   ⟨true, ⟨(some 9), .mov (.t 32), [2, 0, 0, 1, 2, 7], none⟩⟩,
   ⟨false, ⟨none, .store 4 (.t 10) (.t 33), [7, 3, 8, 0, 1, 2, 3, 7, 8], none⟩⟩,
   ⟨true, ⟨(some 11), .mov (.t 34), [4, 9, 0, 1, 2, 3, 4, 7, 8, 9], none⟩⟩,
   ⟨true, ⟨(some 12), .mov (.t 35), [5, 10, 0, 1, 2, 3, 4, 5, 7, 8, 9, 10], none⟩⟩,
   ⟨true, ⟨(some 13), .mov (.t 36), [6, 11, 0, 1, 2, 3, 4, 5, 6, 7, 8, 9, 10, 11], none⟩⟩] [] 136365211648)
 (.seq (.region [⟨true, ⟨(some 37), .mov (.t 2), [], none⟩⟩,
   ⟨true, ⟨(some 38), .bin .eql (.t 37) (.c (.int .i64 (.ofNat 0))), [0], none⟩⟩,
   ⟨true, ⟨(some 39), .mov (.t 38), [1], none⟩⟩,
   ⟨true, ⟨(some 40), .faddr 1 (.t 1), [2], (some (39, true))⟩⟩,
   ⟨true, ⟨(some 41), .load none (.t 40), [3, 2], (some (39, true))⟩⟩,
   ⟨true, ⟨(some 42), .len 1 (.t 41), [4, 2], (some (39, true))⟩⟩,
   ⟨true, ⟨(some 43), .bin .eql (.t 42) (.c (.int .i64 (.ofNat 2))), [5, 2], (some (39, true))⟩⟩,
   ⟨true, ⟨(some 44), .pick (.t 39) (.t 43) (.c (.bool false)), [2, 6], none⟩⟩,
   ⟨true, ⟨(some 45), .mov (.t 44), [7, 2], none⟩⟩,
   ⟨true, ⟨(some 46), .faddr 2 (.t 1), [8], (some (45, true))⟩⟩,
   ⟨true, ⟨(some 47), .load none (.t 46), [9, 8], (some (45, true))⟩⟩,
   ⟨true, ⟨(some 48), .len 1 (.t 47), [10, 8], (some (45, true))⟩⟩,
   ⟨true, ⟨(some 49), .bin .eql (.t 48) (.c (.int .i64 (.ofNat 1))), [11, 8], (some (45, true))⟩⟩,
   ⟨true, ⟨(some 50), .pick (.t 45) (.t 49) (.c (.bool false)), [8, 12], none⟩⟩,
   ⟨true, ⟨(some 51), .mov (.t 50), [13, 8], none⟩⟩,
   ⟨true, ⟨(some 52), .mov (.t 4), [14], (some (51, true))⟩⟩,
   ⟨true, ⟨(some 53), .bin .eql (.t 52) (.c (.int .i64 (.ofNat 0))), [15, 14], (some (51, true))⟩⟩,
   ⟨true, ⟨(some 54), .pick (.t 51) (.t 53) (.c (.bool false)), [14, 16], none⟩⟩,
   ⟨true, ⟨(some 55), .mov (.t 54), [17, 14], none⟩⟩,
   ⟨true, ⟨(some 56), .faddr 0 (.t 3), [18], (some (55, true))⟩⟩,
   ⟨true, ⟨(some 57), .load none (.t 56), [19, 18], (some (55, true))⟩⟩,
   ⟨true, ⟨(some 58), .bin .eql (.t 57) (.c (.int .i64 (.ofNat 8))), [20, 18], (some (55, true))⟩⟩,
   ⟨true, ⟨(some 59), .pick (.t 55) (.t 58) (.c (.bool false)), [18, 21], none⟩⟩,
   ⟨true, ⟨(some 60), .mov (.t 59), [22, 18], none⟩⟩,
   ⟨true, ⟨(some 61), .faddr 2 (.t 3), [23], (some (60, true))⟩⟩,
   ⟨true, ⟨(some 62), .load none (.t 61), [24, 23], (some (60, true))⟩⟩,
   ⟨true, ⟨(some 63), .bin .eql (.t 62) (.c (.int .i64 (.ofNat 6))), [25, 23], (some (60, true))⟩⟩,
   ⟨true, ⟨(some 64), .pick (.t 60) (.t 63) (.c (.bool false)), [23, 26], none⟩⟩,
   ⟨true, ⟨(some 65), .mov (.t 64), [27, 23], none⟩⟩,
   ⟨true, ⟨(some 66), .faddr 4 (.t 3), [28], (some (65, true))⟩⟩,
   ⟨true, ⟨(some 67), .load none (.t 66), [29, 28], (some (65, true))⟩⟩,
   ⟨true, ⟨(some 68), .len 1 (.t 67), [30, 28], (some (65, true))⟩⟩,
   ⟨true, ⟨(some 69), .bin .eql (.t 68) (.c (.int .i64 (.ofNat 2))), [31, 28], (some (65, true))⟩⟩,
   ⟨true, ⟨(some 70), .pick (.t 65) (.t 69) (.c (.bool false)), [28, 32], none⟩⟩,
   ⟨true, ⟨(some 71), .mov (.t 70), [33, 28], none⟩⟩,
   ⟨true, ⟨(some 72), .mov (.t 6), [34], (some (71, true))⟩⟩,
   ⟨true, ⟨(some 73), .bin .eql (.t 72) (.c (.int .i64 (.ofNat 0))), [35, 34], (some (71, true))⟩⟩,
   ⟨true, ⟨(some 74), .pick (.t 71) (.t 73) (.c (.bool false)), [34, 36], none⟩⟩,
   ⟨true, ⟨(some 75), .mov (.t 74), [37, 34], none⟩⟩,
   ⟨true, ⟨(some 76), .faddr 1 (.t 5), [38], (some (75, true))⟩⟩,
   ⟨true, ⟨(some 77), .load none (.t 76), [39, 38], (some (75, true))⟩⟩,
   ⟨true, ⟨(some 78), .len 1 (.t 77), [40, 38], (some (75, true))⟩⟩,
   ⟨true, ⟨(some 79), .bin .eql (.t 78) (.c (.int .i64 (.ofNat 4))), [41, 38], (some (75, true))⟩⟩,
   ⟨true, ⟨(some 80), .pick (.t 75) (.t 79) (.c (.bool false)), [38, 42], none⟩⟩,
   ⟨true, ⟨(some 81), .mov (.t 80), [43, 38], none⟩⟩,
   ⟨true, ⟨(some 82), .faddr 1 (.t 5), [44], (some (81, true))⟩⟩,
   ⟨true, ⟨(some 83), .load none (.t 82), [45, 44], (some (81, true))⟩⟩,
   ⟨true, ⟨(some 84), .iaddr none 5 (.t 83) (.c (.int .i64 (.ofNat 2))), [46, 44], (some (81, true))⟩⟩,
   ⟨true, ⟨(some 85), .faddr 1 (.t 84), [47, 44], (some (81, true))⟩⟩,
   ⟨true, ⟨(some 86), .faddr 0 (.t 85), [48, 44], (some (81, true))⟩⟩,
   ⟨true, ⟨(some 87), .load none (.t 86), [49, 44], (some (81, true))⟩⟩,
   ⟨true, ⟨(some 88), .bslice false .dyn 1 4 [(.int .i64 (.ofNat 0)), (.int .i64 (.ofNat 0)), (.int .i64 (.ofNat 0)), (.int .i64 (.ofNat 0))] [(0, 1, (.c (.int .i64 (.ofNat 0)))), (1, 1, (.c (.int .i64 (.ofNat 2)))), (2, 1, (.c (.int .i64 (.ofNat 4)))), (3, 1, (.c (.int .i64 (.ofNat 5))))], [44], (some (81, true))⟩⟩,
   ⟨true, ⟨(some 89), .call .heap (.f 32) [(.t 87), (.t 88)], [50, 51, 44, 44], (some (81, true))⟩⟩,
   ⟨true, ⟨(some 90), .pick (.t 81) (.t 89) (.c (.bool false)), [44, 52], none⟩⟩,
   ⟨true, ⟨(some 91), .mov (.t 90), [53, 52], none⟩⟩,
   ⟨true, ⟨(some 92), .mov (.t 8), [54], (some (91, true))⟩⟩,
   ⟨true, ⟨(some 93), .bin .eql (.t 92) (.c (.int .i64 (.ofNat 0))), [55, 54], (some (91, true))⟩⟩,
   ⟨true, ⟨(some 94), .pick (.t 91) (.t 93) (.c (.bool false)), [54, 56], none⟩⟩,
   ⟨true, ⟨(some 95), .mov (.t 94), [57, 54], none⟩⟩,
   ⟨true, ⟨(some 96), .faddr 2 (.t 7), [58], (some (95, true))⟩⟩,
   ⟨true, ⟨(some 97), .load none (.t 96), [59, 58], (some (95, true))⟩⟩,
   ⟨true, ⟨(some 98), .bslice false .dyn 1 3 [(.int .i64 (.ofNat 0)), (.int .i64 (.ofNat 0)), (.int .i64 (.ofNat 0))] [(0, 1, (.c (.int .i64 (.ofNat 0)))), (1, 1, (.c (.int .i64 (.ofNat 3)))), (2, 1, (.c (.int .i64 (.ofNat 6))))], [58], (some (95, true))⟩⟩,
   ⟨true, ⟨(some 99), .call .heap (.f 32) [(.t 97), (.t 98)], [60, 61, 58, 58], (some (95, true))⟩⟩,
   ⟨true, ⟨(some 100), .pick (.t 95) (.t 99) (.c (.bool false)), [58, 62], none⟩⟩,
   ⟨true, ⟨(some 101), .mov (.t 100), [63, 62], none⟩⟩,
   ⟨true, ⟨(some 102), .mov (.t 13), [64], (some (101, true))⟩⟩,
   ⟨true, ⟨(some 103), .bin .eql (.t 102) (.c (.int .i64 (.ofNat 0))), [65, 64], (some (101, true))⟩⟩,
   ⟨true, ⟨(some 104), .pick (.t 101) (.t 103) (.c (.bool false)), [64, 66], none⟩⟩,
   ⟨true, ⟨(some 105), .mov (.t 104), [67, 64], none⟩⟩,
   ⟨true, ⟨(some 106), .mov (.t 9), [68], (some (105, true))⟩⟩,
   ⟨true, ⟨(some 107), .len 1 (.t 106), [69, 68], (some (105, true))⟩⟩,
   ⟨true, ⟨(some 108), .bin .eql (.t 107) (.c (.int .i64 (.ofNat 3))), [70, 68], (some (105, true))⟩⟩,
   ⟨true, ⟨(some 109), .pick (.t 105) (.t 108) (.c (.bool false)), [68, 71], none⟩⟩,
   ⟨true, ⟨(some 110), .mov (.t 109), [72, 68], none⟩⟩,
   ⟨true, ⟨(some 111), .faddr 1 (.t 10), [73], (some (110, true))⟩⟩,
   ⟨true, ⟨(some 112), .load none (.t 111), [74, 73], (some (110, true))⟩⟩,
   ⟨true, ⟨(some 113), .bin .eql (.t 112) (.c (.int .i64 (.ofNat 2))), [75, 73], (some (110, true))⟩⟩,
   ⟨true, ⟨(some 114), .pick (.t 110) (.t 113) (.c (.bool false)), [73, 76], none⟩⟩,
   ⟨true, ⟨(some 115), .mov (.t 114), [77, 73], none⟩⟩,
   ⟨true, ⟨(some 116), .mov (.t 11), [78], (some (115, true))⟩⟩,
   ⟨true, ⟨(some 117), .bin .eql (.t 116) (.c (.int .i64 (.ofNat 1))), [79, 78], (some (115, true))⟩⟩,
   ⟨true, ⟨(some 118), .pick (.t 115) (.t 117) (.c (.bool false)), [78, 80], none⟩⟩,
   ⟨true, ⟨(some 119), .mov (.t 118), [81, 78], none⟩⟩,
   ⟨true, ⟨(some 120), .mov (.t 12), [82], (some (119, true))⟩⟩,
   ⟨true, ⟨(some 121), .bin .eql (.t 120) (.c (.int .i64 (.ofNat 1))), [83, 82], (some (119, true))⟩⟩,
   ⟨true, ⟨(some 122), .pick (.t 119) (.t 121) (.c (.bool false)), [82, 84], none⟩⟩,
   ⟨true, ⟨(some 0), .mov (.t 122), [85, 82, 0, 1, 2, 3, 4, 5, 6, 7, 8, 9, 10, 11, 12, 13, 14, 15, 16, 17, 18, 19, 20, 21, 22, 23, 24, 25, 26, 27, 28, 29, 30, 31, 32, 33, 34, 35, 36, 37, 38, 39, 40, 41, 42, 43, 44, 45, 46, 47, 48, 49, 50, 51, 52, 53, 54, 55, 56, 57, 58, 59, 60, 61, 62, 63, 64, 65, 66, 67, 68, 69, 70, 71, 72, 73, 74, 75, 76, 77, 78, 79, 80, 81, 82, 83, 84, 85], none⟩⟩] [] 10633823966279326983230456344803819518)
 .ret)))))))⟩
def f10 : FFn := ⟨28, [.tmp 4, .tmp 5],
 (.seq (.region [⟨true, ⟨(some 4), .mov (.c (.int .i64 (.ofNat 0))), [], none⟩⟩,
   ⟨true, ⟨(some 5), .mov (.c (.int .i64 (.ofNat 0))), [0], none⟩⟩] [] 48)
 (.seq (.region [⟨true, ⟨(some 9), .mov (.t 0), [], none⟩⟩,
   ⟨true, ⟨(some 10), .bin .rem (.t 9) (.c (.int .u8 (.ofNat 5))), [0], none⟩⟩,
   ⟨true, ⟨(some 11), .conv .i64 (.t 10), [1], none⟩⟩,
   ⟨true, ⟨(some 12), .bin .add (.c (.int .i64 (.ofNat 1))) (.t 11), [2], none⟩⟩,
   ⟨true, ⟨(some 6), .mov (.t 12), [3, 0, 1, 2, 3], none⟩⟩] [] 7681)
 (.seq (.region [⟨true, ⟨(some 14), .mov (.t 6), [], none⟩⟩,
   ⟨true, ⟨(some 15), .call .heap (.f 33) [(.t 14)], [0], none⟩⟩,
   ⟨true, ⟨(some 13), .mov (.t 15), [1], none⟩⟩,
   ⟨true, ⟨(some 16), .extract 0 (.t 13), [2], none⟩⟩,
   ⟨true, ⟨(some 17), .extract 1 (.t 13), [2], none⟩⟩,
   ⟨true, ⟨(some 7), .mov (.t 16), [3, 1, 0, 1, 2, 3], none⟩⟩,
   ⟨true, ⟨(some 8), .mov (.t 17), [4, 5, 0, 1, 2, 3, 4, 5], none⟩⟩] [] 253952)
 (.seq (.region [⟨true, ⟨(some 18), .mov (.t 6), [], none⟩⟩,
   ⟨true, ⟨(some 19), .mov (.t 7), [], none⟩⟩,
   ⟨true, ⟨(some 20), .mov (.t 1), [], none⟩⟩,
   ⟨true, ⟨(some 21), .conv .i64 (.t 20), [2], none⟩⟩,
   ⟨true, ⟨(some 22), .mov (.t 8), [], none⟩⟩,
   ⟨true, ⟨(some 23), .mov (.t 7), [], none⟩⟩,
   ⟨true, ⟨(some 24), .bin .sub (.t 22) (.t 23), [4, 5], none⟩⟩,
   ⟨true, ⟨(some 25), .bin .add (.t 24) (.c (.int .i64 (.ofNat 1))), [6], none⟩⟩,
   ⟨true, ⟨(some 26), .bin .rem (.t 21) (.t 25), [3, 7], none⟩⟩,
   ⟨true, ⟨(some 27), .bin .add (.t 19) (.t 26), [1, 8], none⟩⟩,
   ⟨true, ⟨(some 4), .mov (.t 18), [0, 0], none⟩⟩,
   ⟨true, ⟨(some 5), .mov (.t 27), [9, 10, 0, 1, 2, 3, 4, 5, 6, 7, 8, 9, 10], none⟩⟩] [] 268173762)
 .ret))))⟩
def f11 : FFn := ⟨54, [.cell 4 (some 5), .tmp 5],
 (.seq (.region [⟨true, ⟨(some 4), .alloc .dyn (.agg [.nilsl, .nilsl, .nilsl, .nilsl, .nilsl]), [], none⟩⟩,
   ⟨true, ⟨(some 5), .mov (.c (.int .i64 (.ofNat 0))), [], none⟩⟩] [] 32)
 (.seq (.seq (.region [⟨true, ⟨(some 10), .mov (.t 0), [], none⟩⟩,
   ⟨true, ⟨(some 11), .mov (.t 1), [], none⟩⟩,
   ⟨true, ⟨(some 12), .call .heap (.f 34) [(.t 10), (.t 11)], [0, 1], none⟩⟩,
   ⟨true, ⟨(some 6), .mov (.t 12), [2, 2, 0, 1, 2], none⟩⟩] [] 7168)
 (.seq (.region [⟨true, ⟨(some 13), .mov (.t 6), [], none⟩⟩,
   ⟨true, ⟨(some 14), .bin .neq (.t 13) (.c (.int .i64 (.ofNat 0))), [0], none⟩⟩] [] 8192)
 (.cond (.t 14)
  (.seq (.region [⟨true, ⟨(some 15), .build [.nilsl, .nilsl, .nilsl, .nilsl, .nilsl] [], [], none⟩⟩,
    ⟨true, ⟨(some 16), .mov (.t 6), [], none⟩⟩,
    ⟨false, ⟨none, .store 5 (.t 4) (.t 15), [0, 0], none⟩⟩,
    ⟨true, ⟨(some 5), .mov (.t 16), [1, 2, 0, 1, 2], none⟩⟩] [] 114755)
  .ret)
  .skip)))
 (.seq (.seq (.region [⟨true, ⟨(some 17), .mov (.t 0), [], none⟩⟩] [] 16481)
 (.block 0 (.seq (.region [⟨true, ⟨(some 19), .bin .eql (.t 17) (.c (.int .i64 (.ofNat 1))), [], none⟩⟩,
   ⟨true, ⟨(some 18), .mov (.t 19), [0], none⟩⟩] [] 524288)
 (.cond (.t 18)
  (.seq (.region [⟨true, ⟨(some 20), .call .heap (.f 35) [(.c (.int .i64 (.ofNat 2)))], [], none⟩⟩,
    ⟨true, ⟨(some 7), .alloc .dyn (.agg [.nilsl, .nilsl, .nilsl, .nilsl, .nilsl]), [], none⟩⟩,
    ⟨false, ⟨none, .store 5 (.t 7) (.t 20), [1, 0, 0, 0, 1], none⟩⟩] [] 1441792)
  (.seq (.region [⟨true, ⟨(some 21), .mov (.t 1), [], none⟩⟩,
    ⟨true, ⟨(some 22), .call .heap (.f 36) [(.c (.int .i64 (.ofNat 0))), (.t 21)], [0], none⟩⟩,
    ⟨true, ⟨(some 23), .bslice false .dyn 5 1 [(.str []), .nilsl, (.int .i64 (.ofNat 0)), .nilsl, .nilsl] [(0, 5, (.t 22))], [1], none⟩⟩,
    ⟨true, ⟨(some 24), .faddr 2 (.t 7), [0, 1, 2], none⟩⟩,
    ⟨false, ⟨none, .store 1 (.t 24) (.t 23), [3, 2, 1, 0, 1, 2], none⟩⟩] [] 31457282)
  (.seq (.region [⟨true, ⟨(some 25), .load (some 5) (.t 7), [], none⟩⟩,
    ⟨false, ⟨none, .store 5 (.t 4) (.t 25), [0, 0], none⟩⟩,
    ⟨true, ⟨(some 5), .mov (.c (.int .i64 (.ofNat 0))), [1, 0, 1], none⟩⟩] [] 33554560)
  .ret)))
  (.seq (.region [⟨true, ⟨(some 27), .bin .eql (.t 17) (.c (.int .i64 (.ofNat 2))), [], none⟩⟩,
    ⟨true, ⟨(some 26), .mov (.t 27), [0], none⟩⟩] [] 134479872)
  (.cond (.t 26)
   (.seq (.region [⟨true, ⟨(some 28), .mov (.t 1), [], none⟩⟩,
     ⟨true, ⟨(some 29), .call .heap (.f 35) [(.t 28)], [0], none⟩⟩,
     ⟨true, ⟨(some 8), .alloc .dyn (.agg [.nilsl, .nilsl, .nilsl, .nilsl, .nilsl]), [], none⟩⟩,
     ⟨false, ⟨none, .store 5 (.t 8) (.t 29), [2, 1, 1, 0, 1, 2], none⟩⟩] [] 872546304)
   (.seq (.seq (.region [⟨true, ⟨(some 30), .mov (.t 1), [], none⟩⟩,
     ⟨true, ⟨(some 31), .bin .sub (.t 30) (.c (.int .i64 (.ofNat 1))), [0], none⟩⟩,
     ⟨true, ⟨(some 32), .mov (.c (.int .i64 (.ofNat 0))), [], none⟩⟩] [] 1073741826)
   (.block 1 (.loop (.seq (.region [⟨true, ⟨(some 33), .bin .lss (.t 32) (.t 31), [], none⟩⟩] [] 0)
   (.seq (.cond (.t 33)
    .skip
    (.exit 1))
   (.seq (.block 2 (.seq (.region [⟨true, ⟨(some 34), .mov (.t 32), [], none⟩⟩,
     ⟨true, ⟨(some 9), .mov (.t 34), [0, 0], none⟩⟩] [] 25769803776)
   (.region [⟨true, ⟨(some 35), .faddr 2 (.t 8), [], none⟩⟩,
     ⟨true, ⟨(some 36), .load none (.t 35), [0], none⟩⟩,
     ⟨true, ⟨(some 37), .mov (.t 9), [], none⟩⟩,
     ⟨true, ⟨(some 38), .call .pure (.f 36) [(.t 37), (.c (.int .i64 (.ofNat 1)))], [2], none⟩⟩,
     ⟨true, ⟨(some 39), .bslice false .dyn 5 1 [(.str []), .nilsl, (.int .i64 (.ofNat 0)), .nilsl, .nilsl] [(0, 5, (.t 38))], [3], none⟩⟩,
     ⟨true, ⟨(some 40), .append .dyn 5 96 (.t 36) (.t 39), [1, 4, 3], none⟩⟩,
     ⟨true, ⟨(some 41), .faddr 2 (.t 8), [0, 1, 2, 3, 4, 5], none⟩⟩,
     ⟨false, ⟨none, .store 1 (.t 41) (.t 40), [6, 5, 5, 0, 1, 2, 3, 4, 5], none⟩⟩] [] 4363686773248)))
   (.region [⟨true, ⟨(some 42), .bin .add (.t 32) (.c (.int .i64 (.ofNat 1))), [], none⟩⟩,
     ⟨false, ⟨(some 32), .mov (.t 42), [0], none⟩⟩] [] 4398046511104)))))))
   (.seq (.region [⟨true, ⟨(some 43), .load (some 5) (.t 8), [], none⟩⟩,
     ⟨false, ⟨none, .store 5 (.t 4) (.t 43), [0, 0], none⟩⟩,
     ⟨true, ⟨(some 5), .mov (.c (.int .i64 (.ofNat 0))), [1, 0, 1], none⟩⟩] [] 8802535473408)
   .ret)))
   (.seq (.region [⟨true, ⟨(some 45), .bin .eql (.t 17) (.c (.int .i64 (.ofNat 3))), [], none⟩⟩,
     ⟨true, ⟨(some 44), .mov (.t 45), [0], none⟩⟩] [] 35184439197696)
   (.cond (.t 44)
    (.seq (.region [⟨true, ⟨(some 46), .mov (.t 1), [], none⟩⟩,
      ⟨true, ⟨(some 47), .call .heap (.f 37) [(.t 46)], [0], none⟩⟩,
      ⟨false, ⟨none, .store 5 (.t 4) (.t 47), [1, 1, 0, 1], none⟩⟩,
      ⟨true, ⟨(some 5), .mov (.c (.int .i64 (.ofNat 0))), [2, 0, 1, 2], none⟩⟩] [] 228698418708482)
    .ret)
    (.seq (.region [⟨true, ⟨(some 49), .bin .eql (.t 17) (.c (.int .i64 (.ofNat 4))), [], none⟩⟩,
      ⟨true, ⟨(some 48), .mov (.t 49), [0], none⟩⟩] [] 580542139596800)
    (.cond (.t 48)
     (.seq (.region [⟨true, ⟨(some 50), .mov (.t 1), [], none⟩⟩,
       ⟨true, ⟨(some 51), .call .heap (.f 38) [(.t 50)], [0], none⟩⟩,
       ⟨false, ⟨none, .store 5 (.t 4) (.t 51), [1, 1, 0, 1], none⟩⟩,
       ⟨true, ⟨(some 5), .mov (.c (.int .i64 (.ofNat 0))), [2, 0, 1, 2], none⟩⟩] [] 3659174697238530)
     .ret)
     .skip))))))))))
 (.seq (.region [⟨true, ⟨(some 52), .mov (.t 1), [], none⟩⟩,
   ⟨true, ⟨(some 53), .call .heap (.f 39) [(.t 52)], [0], none⟩⟩,
   ⟨false, ⟨none, .store 5 (.t 4) (.t 53), [1, 1, 0, 1], none⟩⟩,
   ⟨false, ⟨(some 5), .mov (.c (.int .i64 (.ofNat 0))), [2, 0, 1, 2], none⟩⟩] [] 13792273858822146)
 .ret))))⟩
def f12 : FFn := ⟨41, [.tmp 4],
 (.seq (.region [⟨true, ⟨(some 2), .box .dyn (.t 0), [], none⟩⟩,
   ⟨true, ⟨(some 3), .box .dyn (.t 1), [], none⟩⟩,
   ⟨true, ⟨(some 4), .mov (.c (.bool false)), [], none⟩⟩] [] 19)
 (.seq (.region [⟨true, ⟨(some 5), .mov (.f 40), [], none⟩⟩] [] 0)
 (.seq (.region [⟨true, ⟨(some 6), .faddr 0 (.t 2), [], none⟩⟩,
   ⟨true, ⟨(some 7), .load none (.t 6), [0], none⟩⟩,
   ⟨true, ⟨(some 8), .faddr 0 (.t 3), [], none⟩⟩,
   ⟨true, ⟨(some 9), .load none (.t 8), [2], none⟩⟩,
   ⟨true, ⟨(some 10), .call .heap (.f 42) [(.t 7), (.t 9)], [1, 3], none⟩⟩,
   ⟨true, ⟨(some 11), .mov (.t 10), [4, 4], none⟩⟩,
   ⟨true, ⟨(some 12), .faddr 1 (.t 2), [5], (some (11, true))⟩⟩,
   ⟨true, ⟨(some 13), .load none (.t 12), [6, 5], (some (11, true))⟩⟩,
   ⟨true, ⟨(some 14), .faddr 1 (.t 3), [5], (some (11, true))⟩⟩,
   ⟨true, ⟨(some 15), .load none (.t 14), [8, 5], (some (11, true))⟩⟩,
   ⟨true, ⟨(some 16), .mov (.t 5), [5], (some (11, true))⟩⟩,
   ⟨true, ⟨(some 17), .call .heap (.f 43) [(.t 13), (.t 15), (.t 16)], [7, 9, 10, 5, 5], (some (11, true))⟩⟩,
   ⟨true, ⟨(some 18), .pick (.t 11) (.t 17) (.c (.bool false)), [5, 11], none⟩⟩,
   ⟨true, ⟨(some 19), .mov (.t 18), [12, 11], none⟩⟩,
   ⟨true, ⟨(some 20), .faddr 2 (.t 2), [13], (some (19, true))⟩⟩,
   ⟨true, ⟨(some 21), .load none (.t 20), [14, 13], (some (19, true))⟩⟩,
   ⟨true, ⟨(some 22), .faddr 2 (.t 3), [13], (some (19, true))⟩⟩,
   ⟨true, ⟨(some 23), .load none (.t 22), [16, 13], (some (19, true))⟩⟩,
   ⟨true, ⟨(some 24), .mov (.t 5), [13], (some (19, true))⟩⟩,
   ⟨true, ⟨(some 25), .call .heap (.f 43) [(.t 21), (.t 23), (.t 24)], [15, 17, 18, 13, 13], (some (19, true))⟩⟩,
   ⟨true, ⟨(some 26), .pick (.t 19) (.t 25) (.c (.bool false)), [13, 19], none⟩⟩,
   ⟨true, ⟨(some 27), .mov (.t 26), [20, 19], none⟩⟩,
   ⟨true, ⟨(some 28), .faddr 3 (.t 2), [21], (some (27, true))⟩⟩,
   ⟨true, ⟨(some 29), .load none (.t 28), [22, 21], (some (27, true))⟩⟩,
   ⟨true, ⟨(some 30), .faddr 3 (.t 3), [21], (some (27, true))⟩⟩,
   ⟨true, ⟨(some 31), .load none (.t 30), [24, 21], (some (27, true))⟩⟩,
   ⟨true, ⟨(some 32), .call .heap (.f 44) [(.t 29), (.t 31), (.f 45)], [23, 25, 21, 21], (some (27, true))⟩⟩,
   ⟨true, ⟨(some 33), .pick (.t 27) (.t 32) (.c (.bool false)), [21, 26], none⟩⟩,
   ⟨true, ⟨(some 34), .mov (.t 33), [27, 26], none⟩⟩,
   ⟨true, ⟨(some 35), .faddr 4 (.t 2), [28], (some (34, true))⟩⟩,
   ⟨true, ⟨(some 36), .load none (.t 35), [29, 28], (some (34, true))⟩⟩,
   ⟨true, ⟨(some 37), .faddr 4 (.t 3), [28], (some (34, true))⟩⟩,
   ⟨true, ⟨(some 38), .load none (.t 37), [31, 28], (some (34, true))⟩⟩,
   ⟨true, ⟨(some 39), .call .heap (.f 47) [(.t 36), (.t 38), (.f 48)], [30, 32, 28, 28], (some (34, true))⟩⟩,
   ⟨true, ⟨(some 40), .pick (.t 34) (.t 39) (.c (.bool false)), [28, 33], none⟩⟩,
   ⟨true, ⟨(some 4), .mov (.t 40), [34, 33, 0, 1, 2, 3, 4, 5, 6, 7, 8, 9, 10, 11, 12, 13, 14, 15, 16, 17, 18, 19, 20, 21, 22, 23, 24, 25, 26, 27, 28, 29, 30, 31, 32, 33, 34], none⟩⟩] [] 2199023255532)
 .ret)))⟩
def f13 : FFn := ⟨110, [.cell 4 (some 5)],
 (.seq (.region [⟨true, ⟨(some 4), .alloc .dyn (.agg [.nilsl, .nilsl, .nilsl, .nilsl, .nilsl]), [], none⟩⟩] [] 0)
 (.seq (.seq (.region [⟨true, ⟨(some 14), .mov (.t 0), [], none⟩⟩] [] 1)
 (.block 0 (.seq (.region [⟨true, ⟨(some 16), .bin .eql (.t 14) (.c (.int .i64 (.ofNat 1))), [], none⟩⟩,
   ⟨true, ⟨(some 15), .mov (.t 16), [0], none⟩⟩] [] 65536)
 (.cond (.t 15)
  (.seq (.region [⟨true, ⟨(some 17), .call .heap (.f 50) [(.c (.int .i64 (.ofNat 2))), (.c (.str [109, 97, 99, 104, 105, 110, 101])), (.c (.str [115, 116, 97, 114, 116])), (.c (.str [102, 105, 110, 105, 115, 104]))], [], none⟩⟩,
    ⟨true, ⟨(some 5), .alloc .dyn (.agg [.nilsl, .nilsl, .nilsl, .nilsl, .nilsl]), [], none⟩⟩,
    ⟨false, ⟨none, .store 5 (.t 5) (.t 17), [1, 0, 0, 0, 1], none⟩⟩] [] 180224)
  (.seq (.region [⟨true, ⟨(some 18), .mov (.t 1), [], none⟩⟩,
    ⟨true, ⟨(some 19), .call .heap (.f 51) [(.c (.int .i64 (.ofNat 1))), (.c (.int .i64 (.ofNat 2))), (.t 18)], [0], none⟩⟩,
    ⟨true, ⟨(some 20), .build [(.str []), .nilsl, (.int .i64 (.ofNat 0)), .nilsl, .nilsl] [(0, 1, (.c (.str [98, 117, 102, 102, 101, 114, 48]))), (1, 4, (.t 19))], [1], none⟩⟩,
    ⟨true, ⟨(some 21), .bslice false .dyn 5 1 [(.str []), .nilsl, (.int .i64 (.ofNat 0)), .nilsl, .nilsl] [(0, 5, (.t 20))], [2], none⟩⟩,
    ⟨true, ⟨(some 22), .faddr 2 (.t 5), [0, 1, 2, 3], none⟩⟩,
    ⟨false, ⟨none, .store 1 (.t 22) (.t 21), [4, 3, 1, 0, 1, 2, 3], none⟩⟩] [] 8126466)
  (.seq (.region [⟨true, ⟨(some 23), .load (some 5) (.t 5), [], none⟩⟩,
    ⟨false, ⟨none, .store 5 (.t 4) (.t 23), [0, 0], none⟩⟩] [] 8388640)
  .ret)))
  (.seq (.region [⟨true, ⟨(some 25), .bin .eql (.t 14) (.c (.int .i64 (.ofNat 2))), [], none⟩⟩,
    ⟨true, ⟨(some 24), .mov (.t 25), [0], none⟩⟩] [] 33587200)
  (.cond (.t 24)
   (.seq (.region [⟨true, ⟨(some 26), .mov (.t 1), [], none⟩⟩,
     ⟨true, ⟨(some 27), .call .heap (.f 50) [(.t 26), (.c (.str [109, 97, 99, 104, 105, 110, 101])), (.c (.str [115, 116, 97, 114, 116])), (.c (.str [102, 105, 110, 105, 115, 104]))], [0], none⟩⟩,
     ⟨true, ⟨(some 6), .alloc .dyn (.agg [.nilsl, .nilsl, .nilsl, .nilsl, .nilsl]), [], none⟩⟩,
     ⟨false, ⟨none, .store 5 (.t 6) (.t 27), [2, 1, 1, 0, 1, 2], none⟩⟩] [] 218120192)
   (.seq (.seq (.region [⟨true, ⟨(some 7), .mov (.c (.int .i64 (.ofNat 0))), [], none⟩⟩] [] 0)
   (.block 1 (.loop (.seq (.seq (.region [⟨true, ⟨(some 28), .mov (.t 7), [], none⟩⟩,
     ⟨true, ⟨(some 29), .mov (.t 1), [], none⟩⟩,
     ⟨true, ⟨(some 30), .bin .sub (.t 29) (.c (.int .i64 (.ofNat 1))), [1], none⟩⟩,
     ⟨true, ⟨(some 31), .bin .lss (.t 28) (.t 30), [0, 2], none⟩⟩] [] 1879048192)
   (.cond (.t 31)
    .skip
    (.exit 1)))
   (.seq (.block 2 (.region [⟨true, ⟨(some 34), .faddr 2 (.t 6), [], none⟩⟩,
     ⟨true, ⟨(some 35), .load none (.t 34), [0], none⟩⟩,
     ⟨true, ⟨(some 36), .mov (.t 7), [], none⟩⟩,
     ⟨true, ⟨(some 37), .call .pure (.f 52) [(.c (.str [98, 117, 102, 102, 101, 114])), (.t 36)], [2], none⟩⟩,
     ⟨true, ⟨(some 38), .mov (.t 7), [], none⟩⟩,
     ⟨true, ⟨(some 39), .bin .mul (.c (.int .i64 (.ofNat 2))) (.t 38), [4], none⟩⟩,
     ⟨true, ⟨(some 40), .bin .add (.t 39) (.c (.int .i64 (.ofNat 1))), [5], none⟩⟩,
     ⟨true, ⟨(some 41), .mov (.t 7), [], none⟩⟩,
     ⟨true, ⟨(some 42), .bin .mul (.c (.int .i64 (.ofNat 2))) (.t 41), [7], none⟩⟩,
     ⟨true, ⟨(some 43), .bin .add (.t 42) (.c (.int .i64 (.ofNat 2))), [8], none⟩⟩,
     ⟨true, ⟨(some 44), .call .pure (.f 51) [(.t 40), (.t 43), (.c (.int .i64 (.ofNat 1)))], [6, 9, 3], none⟩⟩,
     ⟨true, ⟨(some 45), .build [(.str []), .nilsl, (.int .i64 (.ofNat 0)), .nilsl, .nilsl] [(0, 1, (.t 37)), (1, 4, (.t 44))], [3, 10], none⟩⟩,
     ⟨true, ⟨(some 46), .bslice false .dyn 5 1 [(.str []), .nilsl, (.int .i64 (.ofNat 0)), .nilsl, .nilsl] [(0, 5, (.t 45))], [11], none⟩⟩,
     ⟨true, ⟨(some 47), .append .dyn 5 96 (.t 35) (.t 46), [1, 12, 10], none⟩⟩,
     ⟨true, ⟨(some 48), .faddr 2 (.t 6), [0, 1, 2, 3, 4, 5, 6, 7, 8, 9, 10, 11, 12, 13], none⟩⟩,
     ⟨false, ⟨none, .store 1 (.t 48) (.t 47), [14, 13, 13, 0, 1, 2, 3, 4, 5, 6, 7, 8, 9, 10, 11, 12, 13], none⟩⟩] [] 562934921035776))
   (.region [⟨true, ⟨(some 32), .mov (.t 7), [], none⟩⟩,
     ⟨true, ⟨(some 33), .bin .add (.t 32) (.c (.int .i64 (.ofNat 1))), [0], none⟩⟩,
     ⟨false, ⟨(some 7), .mov (.t 33), [1, 0, 1], none⟩⟩] [] 12884901888))))))
   (.seq (.region [⟨true, ⟨(some 49), .load (some 5) (.t 6), [], none⟩⟩,
     ⟨false, ⟨none, .store 5 (.t 4) (.t 49), [0, 0], none⟩⟩] [] 562949953421506)
   .ret)))
   (.seq (.region [⟨true, ⟨(some 51), .bin .eql (.t 14) (.c (.int .i64 (.ofNat 3))), [], none⟩⟩,
     ⟨true, ⟨(some 50), .mov (.t 51), [0], none⟩⟩] [] 2251799830462464)
   (.cond (.t 50)
    (.seq (.region [⟨true, ⟨(some 52), .mov (.t 1), [], none⟩⟩,
      ⟨true, ⟨(some 53), .call .heap (.f 53) [(.t 52)], [0], none⟩⟩,
      ⟨false, ⟨none, .store 5 (.t 4) (.t 53), [1, 1, 0, 1], none⟩⟩] [] 14636698788970498)
    .ret)
    (.seq (.region [⟨true, ⟨(some 55), .bin .eql (.t 14) (.c (.int .i64 (.ofNat 4))), [], none⟩⟩,
      ⟨true, ⟨(some 54), .mov (.t 55), [0], none⟩⟩] [] 37154696925822976)
    (.cond (.t 54)
     (.seq (.region [⟨true, ⟨(some 56), .mov (.t 1), [], none⟩⟩,
       ⟨true, ⟨(some 57), .call .heap (.f 50) [(.t 56), (.c (.str [118, 101, 104, 105, 99, 108, 101])), (.c (.str [101, 110, 116, 101, 114])), (.c (.str [108, 101, 97, 118, 101]))], [0], none⟩⟩,
       ⟨true, ⟨(some 8), .alloc .dyn (.agg [.nilsl, .nilsl, .nilsl, .nilsl, .nilsl]), [], none⟩⟩,
       ⟨false, ⟨none, .store 5 (.t 8) (.t 57), [2, 1, 1, 0, 1, 2], none⟩⟩] [] 234187180623265792)
     (.seq (.region [⟨true, ⟨(some 58), .build [(.str []), .nilsl, (.int .i64 (.ofNat 0))] [(0, 1, (.c (.str [122, 111, 110, 101]))), (2, 1, (.c (.int .i64 (.ofNat 1))))], [], none⟩⟩,
       ⟨true, ⟨(some 9), .alloc .dyn (.agg [(.str []), .nilsl, (.int .i64 (.ofNat 0))]), [], none⟩⟩,
       ⟨false, ⟨none, .store 3 (.t 9) (.t 58), [1, 0, 0, 1], none⟩⟩] [] 288230376151711744)
     (.seq (.seq (.region [⟨true, ⟨(some 10), .mov (.c (.int .i64 (.ofNat 0))), [], none⟩⟩] [] 0)
     (.block 3 (.loop (.seq (.seq (.region [⟨true, ⟨(some 59), .mov (.t 10), [], none⟩⟩,
       ⟨true, ⟨(some 60), .mov (.t 1), [], none⟩⟩,
       ⟨true, ⟨(some 61), .bin .lss (.t 59) (.t 60), [0, 1], none⟩⟩] [] 1729382256910270464)
     (.cond (.t 61)
      .skip
      (.exit 3)))
     (.seq (.block 4 (.region [⟨true, ⟨(some 64), .faddr 1 (.t 9), [], none⟩⟩,
       ⟨true, ⟨(some 65), .load none (.t 64), [0], none⟩⟩,
       ⟨true, ⟨(some 66), .mov (.t 10), [], none⟩⟩,
       ⟨true, ⟨(some 67), .build [(.int .i64 (.ofNat 0)), (.int .i64 (.ofNat 0))] [(0, 1, (.t 66)), (1, 1, (.c (.int .i64 (.ofNat 1))))], [2], none⟩⟩,
       ⟨true, ⟨(some 68), .bslice false .dyn 2 1 [(.int .i64 (.ofNat 0)), (.int .i64 (.ofNat 0))] [(0, 2, (.t 67))], [3], none⟩⟩,
       ⟨true, ⟨(some 69), .append .dyn 2 16 (.t 65) (.t 68), [1, 4], none⟩⟩,
       ⟨true, ⟨(some 70), .faddr 1 (.t 9), [0, 1, 2, 3, 4, 5], none⟩⟩,
       ⟨false, ⟨none, .store 1 (.t 70) (.t 69), [6, 5, 5, 0, 1, 2, 3, 4, 5], none⟩⟩] [] 2345042340370326749184))
     (.region [⟨true, ⟨(some 62), .mov (.t 10), [], none⟩⟩,
       ⟨true, ⟨(some 63), .bin .add (.t 62) (.c (.int .i64 (.ofNat 1))), [0], none⟩⟩,
       ⟨false, ⟨(some 10), .mov (.t 63), [1, 0, 1], none⟩⟩] [] 13835058055282163712))))))
     (.seq (.region [⟨true, ⟨(some 71), .load (some 3) (.t 9), [], none⟩⟩,
       ⟨true, ⟨(some 72), .bslice false .dyn 3 1 [(.str []), .nilsl, (.int .i64 (.ofNat 0))] [(0, 3, (.t 71))], [0], none⟩⟩,
       ⟨true, ⟨(some 73), .faddr 4 (.t 8), [0, 1], none⟩⟩,
       ⟨false, ⟨none, .store 1 (.t 73) (.t 72), [2, 1, 0, 1], none⟩⟩] [] 16528282690043758249474)
     (.seq (.region [⟨true, ⟨(some 74), .load (some 5) (.t 8), [], none⟩⟩,
       ⟨false, ⟨none, .store 5 (.t 4) (.t 74), [0, 0], none⟩⟩] [] 18889465931478580855040)
     .ret)))))
     .skip))))))))))
 (.seq (.region [⟨true, ⟨(some 75), .mov (.t 1), [], none⟩⟩,
   ⟨true, ⟨(some 76), .call .heap (.f 50) [(.t 75), (.c (.str [109, 97, 99, 104, 105, 110, 101])), (.c (.str [115, 116, 97, 114, 116])), (.c (.str [102, 105, 110, 105, 115, 104]))], [0], none⟩⟩,
   ⟨true, ⟨(some 11), .alloc .dyn (.agg [.nilsl, .nilsl, .nilsl, .nilsl, .nilsl]), [], none⟩⟩,
   ⟨false, ⟨none, .store 5 (.t 11) (.t 76), [2, 1, 1, 0, 1, 2], none⟩⟩] [] 113336813603269994610688)
 (.seq (.region [⟨true, ⟨(some 77), .mov (.t 1), [], none⟩⟩,
   ⟨true, ⟨(some 78), .bslice false .dyn 1 1 [(.int .i64 (.ofNat 0))] [(0, 1, (.c (.int .i64 (.ofNat 0))))], [], none⟩⟩,
   ⟨true, ⟨(some 79), .build [.nilsl, (.int .i64 (.ofNat 0)), .nilsl, .nilsl] [(1, 1, (.t 77)), (2, 1, (.t 78))], [0, 1], none⟩⟩,
   ⟨true, ⟨(some 12), .alloc .dyn (.agg [.nilsl, (.int .i64 (.ofNat 0)), .nilsl, .nilsl]), [], none⟩⟩,
   ⟨false, ⟨none, .store 4 (.t 12) (.t 79), [3, 2, 0, 1, 2, 3], none⟩⟩] [] 1057810092162800527867904)
 (.seq (.seq (.region [⟨true, ⟨(some 13), .mov (.c (.int .i64 (.ofNat 0))), [], none⟩⟩] [] 0)
 (.block 5 (.loop (.seq (.seq (.region [⟨true, ⟨(some 80), .mov (.t 13), [], none⟩⟩,
   ⟨true, ⟨(some 81), .mov (.t 1), [], none⟩⟩,
   ⟨true, ⟨(some 82), .bin .lss (.t 80) (.t 81), [0, 1], none⟩⟩] [] 3626777458843887524118528)
 (.cond (.t 82)
  .skip
  (.exit 5)))
 (.seq (.block 6 (.seq (.region [⟨true, ⟨(some 85), .faddr 0 (.t 12), [], none⟩⟩,
   ⟨true, ⟨(some 86), .load none (.t 85), [0], none⟩⟩,
   ⟨true, ⟨(some 87), .mov (.t 13), [], none⟩⟩,
   ⟨true, ⟨(some 88), .bin .mul (.c (.int .i64 (.ofNat 2))) (.t 87), [2], none⟩⟩,
   ⟨true, ⟨(some 89), .bslice false .dyn 1 1 [(.int .i64 (.ofNat 0))] [(0, 1, (.t 88))], [3], none⟩⟩,
   ⟨true, ⟨(some 90), .append .dyn 1 8 (.t 86) (.t 89), [1, 4], none⟩⟩,
   ⟨true, ⟨(some 91), .faddr 0 (.t 12), [0, 1, 2, 3, 4, 5], none⟩⟩,
   ⟨false, ⟨none, .store 1 (.t 91) (.t 90), [6, 5, 5, 0, 1, 2, 3, 4, 5], none⟩⟩] [] 4917910234192311482704723968)
 (.region [⟨true, ⟨(some 92), .faddr 3 (.t 12), [], none⟩⟩,
   ⟨true, ⟨(some 93), .load none (.t 92), [0], none⟩⟩,
   ⟨true, ⟨(some 94), .mov (.t 13), [], none⟩⟩,
   ⟨true, ⟨(some 95), .mov (.t 13), [], none⟩⟩,
   ⟨true, ⟨(some 96), .bin .mul (.c (.int .i64 (.ofNat 2))) (.t 95), [3], none⟩⟩,
   ⟨true, ⟨(some 97), .mov (.t 13), [], none⟩⟩,
   ⟨true, ⟨(some 98), .bin .add (.t 97) (.c (.int .i64 (.ofNat 1))), [5], none⟩⟩,
   ⟨true, ⟨(some 99), .mov (.t 1), [], none⟩⟩,
   ⟨true, ⟨(some 100), .bin .rem (.t 98) (.t 99), [6, 7], none⟩⟩,
   ⟨true, ⟨(some 101), .build [(.int .i64 (.ofNat 0)), (.int .i64 (.ofNat 0)), (.int .i64 (.ofNat 0))] [(0, 1, (.t 94)), (1, 1, (.t 96)), (2, 1, (.t 100))], [2, 4, 8], none⟩⟩,
   ⟨true, ⟨(some 102), .bslice false .dyn 3 1 [(.int .i64 (.ofNat 0)), (.int .i64 (.ofNat 0)), (.int .i64 (.ofNat 0))] [(0, 3, (.t 101))], [9], none⟩⟩,
   ⟨true, ⟨(some 103), .append .dyn 3 24 (.t 93) (.t 102), [1, 10], none⟩⟩,
   ⟨true, ⟨(some 104), .faddr 3 (.t 12), [0, 1, 2, 3, 4, 5, 6, 7, 8, 9, 10, 11], none⟩⟩,
   ⟨false, ⟨none, .store 1 (.t 104) (.t 103), [12, 11, 11, 0, 1, 2, 3, 4, 5, 6, 7, 8, 9, 10, 11], none⟩⟩] [] 40559867447146199326794906075136)))
 (.region [⟨true, ⟨(some 83), .mov (.t 13), [], none⟩⟩,
   ⟨true, ⟨(some 84), .bin .add (.t 83) (.c (.int .i64 (.ofNat 1))), [0], none⟩⟩,
   ⟨false, ⟨(some 13), .mov (.t 84), [1, 0, 1], none⟩⟩] [] 29014219670751100192948224))))))
 (.seq (.region [⟨true, ⟨(some 105), .load (some 4) (.t 12), [], none⟩⟩,
   ⟨true, ⟨(some 106), .build [(.str []), .nilsl, (.int .i64 (.ofNat 0)), .nilsl, .nilsl] [(0, 1, (.c (.str [116, 117, 114, 110, 115]))), (1, 4, (.t 105))], [0], none⟩⟩,
   ⟨true, ⟨(some 107), .bslice false .dyn 5 1 [(.str []), .nilsl, (.int .i64 (.ofNat 0)), .nilsl, .nilsl] [(0, 5, (.t 106))], [1], none⟩⟩,
   ⟨true, ⟨(some 108), .faddr 2 (.t 11), [0, 1, 2], none⟩⟩,
   ⟨false, ⟨none, .store 1 (.t 108) (.t 107), [3, 2, 0, 1, 2], none⟩⟩] [] 608472288109550112718417538592770)
 (.seq (.region [⟨true, ⟨(some 109), .load (some 5) (.t 11), [], none⟩⟩,
   ⟨false, ⟨none, .store 5 (.t 4) (.t 109), [0, 0], none⟩⟩] [] 649037107316853453566312041154560)
 .ret)))))))⟩
def f14 : FFn := ⟨94, [.tmp 2],
 (.seq (.region [⟨true, ⟨(some 1), .box .dyn (.t 0), [], none⟩⟩,
   ⟨true, ⟨(some 2), .mov (.c (.int .i64 (.ofNat 0))), [], none⟩⟩] [] 5)
 (.seq (.seq (.region [⟨true, ⟨(some 15), .faddr 0 (.t 1), [], none⟩⟩,
   ⟨true, ⟨(some 16), .load none (.t 15), [0], none⟩⟩,
   ⟨true, ⟨(some 17), .call .heap (.f 54) [(.t 16)], [1], none⟩⟩,
   ⟨true, ⟨(some 3), .mov (.t 17), [2, 2, 0, 1, 2], none⟩⟩] [] 229376)
 (.seq (.region [⟨true, ⟨(some 18), .mov (.t 3), [], none⟩⟩,
   ⟨true, ⟨(some 19), .bin .neq (.t 18) (.c (.int .i64 (.ofNat 0))), [0], none⟩⟩] [] 262144)
 (.cond (.t 19)
  (.seq (.region [⟨true, ⟨(some 20), .mov (.t 3), [], none⟩⟩,
    ⟨true, ⟨(some 2), .mov (.t 20), [0, 0], none⟩⟩] [] 1572874)
  .ret)
  .skip)))
 (.seq (.seq (.region [⟨true, ⟨(some 21), .faddr 1 (.t 1), [], none⟩⟩,
   ⟨true, ⟨(some 22), .load none (.t 21), [0], none⟩⟩,
   ⟨true, ⟨(some 23), .len 1 (.t 22), [1], none⟩⟩,
   ⟨true, ⟨(some 4), .mov (.t 23), [2, 0, 1, 2], none⟩⟩] [] 15204364)
 (.block 0 (.seq (.region [⟨true, ⟨(some 25), .mov (.t 4), [], none⟩⟩,
   ⟨true, ⟨(some 26), .bin .eql (.t 25) (.c (.int .i64 (.ofNat 0))), [0], none⟩⟩,
   ⟨true, ⟨(some 24), .mov (.t 26), [1], none⟩⟩] [] 100663296)
 (.cond (.t 24)
  (.seq (.region [⟨true, ⟨(some 2), .mov (.c (.int .i64 (.ofNat 12))), [], none⟩⟩] [] 16777234)
  .ret)
  (.seq (.region [⟨true, ⟨(some 28), .mov (.t 4), [], none⟩⟩,
    ⟨true, ⟨(some 29), .bin .gtr (.t 28) (.c (.int .i64 (.ofNat 8))), [0], none⟩⟩,
    ⟨true, ⟨(some 30), .mov (.t 29), [1], none⟩⟩,
    ⟨true, ⟨(some 31), .mov (.t 4), [2], (some (30, false))⟩⟩,
    ⟨true, ⟨(some 32), .faddr 2 (.t 1), [2], (some (30, false))⟩⟩,
    ⟨true, ⟨(some 33), .load none (.t 32), [4, 2], (some (30, false))⟩⟩,
    ⟨true, ⟨(some 34), .len 1 (.t 33), [5, 2], (some (30, false))⟩⟩,
    ⟨true, ⟨(some 35), .bin .add (.t 31) (.t 34), [3, 6, 2], (some (30, false))⟩⟩,
    ⟨true, ⟨(some 36), .bin .gtr (.t 35) (.c (.int .i64 (.ofNat 12))), [7, 2], (some (30, false))⟩⟩,
    ⟨true, ⟨(some 37), .pick (.t 30) (.c (.bool true)) (.t 36), [2, 8], none⟩⟩,
    ⟨true, ⟨(some 27), .mov (.t 37), [9, 2], none⟩⟩] [] 274626248720)
  (.cond (.t 27)
   (.seq (.region [⟨true, ⟨(some 2), .mov (.c (.int .i64 (.ofNat 3))), [], none⟩⟩] [] 134217730)
   .ret)
   .skip))))))
 (.seq (.region [⟨true, ⟨(some 38), .mkmap .dyn, [], none⟩⟩,
   ⟨true, ⟨(some 5), .mov (.t 38), [0, 0], none⟩⟩] [] 275012124676)
 (.seq (.region [⟨true, ⟨(some 6), .mov (.c .nilsl), [], none⟩⟩,
   ⟨true, ⟨(some 7), .mov (.c .nilsl), [0], none⟩⟩] [] 0)
 (.seq (.seq (.region [⟨true, ⟨(some 39), .faddr 0 (.t 1), [], none⟩⟩,
   ⟨true, ⟨(some 40), .load none (.t 39), [0], none⟩⟩,
   ⟨true, ⟨(some 41), .len 1 (.t 40), [1], none⟩⟩,
   ⟨true, ⟨(some 42), .mov (.c (.int .i64 (.ofNat 0))), [], none⟩⟩] [] 1649267441664)
 (.block 1 (.loop (.seq (.region [⟨true, ⟨(some 43), .bin .lss (.t 42) (.t 41), [], none⟩⟩] [] 0)
 (.seq (.cond (.t 43)
  .skip
  (.exit 1))
 (.seq (.block 2 (.seq (.region [⟨true, ⟨(some 44), .mov (.t 42), [], none⟩⟩,
   ⟨true, ⟨(some 8), .mov (.t 44), [0, 0], none⟩⟩] [] 26388279066624)
 (.region [⟨true, ⟨(some 45), .mov (.t 6), [], none⟩⟩,
   ⟨true, ⟨(some 46), .mov (.t 8), [], none⟩⟩,
   ⟨true, ⟨(some 47), .bslice false .dyn 1 1 [(.int .i64 (.ofNat 0))] [(0, 1, (.t 46))], [1], none⟩⟩,
   ⟨true, ⟨(some 48), .append .dyn 1 8 (.t 45) (.t 47), [0, 2], none⟩⟩,
   ⟨false, ⟨(some 6), .mov (.t 48), [3, 3, 0, 1, 2, 3], none⟩⟩] [] 527765581332736)))
 (.region [⟨true, ⟨(some 49), .bin .add (.t 42) (.c (.int .i64 (.ofNat 1))), [], none⟩⟩,
   ⟨false, ⟨(some 42), .mov (.t 49), [0], none⟩⟩] [] 562949953421312)))))))
 (.seq (.seq (.region [⟨true, ⟨(some 50), .faddr 1 (.t 1), [], none⟩⟩,
   ⟨true, ⟨(some 51), .load none (.t 50), [0], none⟩⟩,
   ⟨true, ⟨(some 52), .len 1 (.t 51), [1], none⟩⟩,
   ⟨true, ⟨(some 53), .mov (.c (.int .i64 (.ofNat 0))), [], none⟩⟩] [] 1132496976609280)
 (.block 3 (.loop (.seq (.region [⟨true, ⟨(some 54), .bin .lss (.t 53) (.t 52), [], none⟩⟩] [] 0)
 (.seq (.cond (.t 54)
  .skip
  (.exit 3))
 (.seq (.block 4 (.seq (.region [⟨true, ⟨(some 55), .iaddr none 5 (.t 51) (.t 53), [], none⟩⟩,
   ⟨true, ⟨(some 56), .load (some 5) (.t 55), [0], none⟩⟩,
   ⟨true, ⟨(some 10), .alloc .dyn (.agg [(.str []), .nilsl, (.int .i64 (.ofNat 0)), .nilsl, .nilsl]), [], none⟩⟩,
   ⟨false, ⟨none, .store 5 (.t 10) (.t 56), [2, 1, 0, 1, 2], none⟩⟩] [] 126100789566373888)
 (.seq (.seq (.region [⟨true, ⟨(some 57), .load (some 5) (.t 10), [], none⟩⟩,
   ⟨true, ⟨(some 58), .faddr 0 (.t 1), [], none⟩⟩,
   ⟨true, ⟨(some 59), .load none (.t 58), [1], none⟩⟩,
   ⟨true, ⟨(some 60), .len 1 (.t 59), [2], none⟩⟩,
   ⟨true, ⟨(some 61), .mov (.t 6), [], none⟩⟩,
   ⟨true, ⟨(some 62), .mov (.t 5), [], none⟩⟩,
   ⟨true, ⟨(some 63), .call .heap (.f 55) [(.t 57), (.t 60), (.t 61), (.t 62)], [0, 3, 4, 5], none⟩⟩,
   ⟨true, ⟨(some 11), .mov (.t 63), [6, 6, 0, 1, 2, 3, 4, 5, 6], none⟩⟩] [] 18302628885633695744)
 (.seq (.region [⟨true, ⟨(some 64), .mov (.t 11), [], none⟩⟩,
   ⟨true, ⟨(some 65), .bin .neq (.t 64) (.c (.int .i64 (.ofNat 0))), [0], none⟩⟩] [] 18446744073709551616)
 (.cond (.t 65)
  (.seq (.region [⟨true, ⟨(some 66), .mov (.t 11), [], none⟩⟩,
    ⟨true, ⟨(some 2), .mov (.t 66), [0, 0], none⟩⟩] [] 110696227040953109730)
  .ret)
  .skip)))
 (.region [⟨true, ⟨(some 67), .mov (.t 7), [], none⟩⟩,
   ⟨true, ⟨(some 68), .faddr 1 (.t 10), [], none⟩⟩,
   ⟨true, ⟨(some 69), .faddr 0 (.t 68), [1], none⟩⟩,
   ⟨true, ⟨(some 70), .load none (.t 69), [2], none⟩⟩,
   ⟨true, ⟨(some 71), .call .heap (.f 56) [(.t 67), (.t 70)], [0, 3], none⟩⟩,
   ⟨false, ⟨(some 7), .mov (.t 71), [4, 4, 0, 1, 2, 3, 4], none⟩⟩] [] 4611686018427387907076))))
 (.region [⟨true, ⟨(some 72), .bin .add (.t 53) (.c (.int .i64 (.ofNat 1))), [], none⟩⟩,
   ⟨false, ⟨(some 53), .mov (.t 72), [0], none⟩⟩] [] 4722366482869645213696)))))))
 (.seq (.seq (.region [⟨true, ⟨(some 73), .faddr 2 (.t 1), [], none⟩⟩,
   ⟨true, ⟨(some 74), .load none (.t 73), [0], none⟩⟩,
   ⟨true, ⟨(some 75), .len 1 (.t 74), [1], none⟩⟩,
   ⟨true, ⟨(some 76), .mov (.c (.int .i64 (.ofNat 0))), [], none⟩⟩] [] 9444748728337986224192)
 (.block 5 (.loop (.seq (.region [⟨true, ⟨(some 77), .bin .lss (.t 76) (.t 75), [], none⟩⟩] [] 0)
 (.seq (.cond (.t 77)
  .skip
  (.exit 5))
 (.seq (.block 6 (.seq (.region [⟨true, ⟨(some 78), .iaddr none 5 (.t 74) (.t 76), [], none⟩⟩,
   ⟨true, ⟨(some 79), .load (some 5) (.t 78), [0], none⟩⟩,
   ⟨true, ⟨(some 13), .alloc .dyn (.agg [(.str []), .nilsl, (.int .i64 (.ofNat 0)), .nilsl, .nilsl]), [], none⟩⟩,
   ⟨false, ⟨none, .store 5 (.t 13) (.t 79), [2, 1, 0, 1, 2], none⟩⟩] [] 1057810092162800527867904)
 (.seq (.region [⟨true, ⟨(some 80), .load (some 5) (.t 13), [], none⟩⟩,
   ⟨true, ⟨(some 81), .faddr 0 (.t 1), [], none⟩⟩,
   ⟨true, ⟨(some 82), .load none (.t 81), [1], none⟩⟩,
   ⟨true, ⟨(some 83), .len 1 (.t 82), [2], none⟩⟩,
   ⟨true, ⟨(some 84), .mov (.t 7), [], none⟩⟩,
   ⟨true, ⟨(some 85), .mov (.t 5), [], none⟩⟩,
   ⟨true, ⟨(some 86), .call .heap (.f 55) [(.t 80), (.t 83), (.t 84), (.t 85)], [0, 3, 4, 5], none⟩⟩,
   ⟨true, ⟨(some 14), .mov (.t 86), [6, 6, 0, 1, 2, 3, 4, 5, 6], none⟩⟩] [] 153533579091057905187692544)
 (.seq (.region [⟨true, ⟨(some 87), .mov (.t 14), [], none⟩⟩,
   ⟨true, ⟨(some 88), .bin .neq (.t 87) (.c (.int .i64 (.ofNat 0))), [0], none⟩⟩] [] 154742504910672534362390528)
 (.cond (.t 88)
  (.seq (.region [⟨true, ⟨(some 89), .mov (.t 14), [], none⟩⟩,
    ⟨true, ⟨(some 2), .mov (.t 89), [0, 0], none⟩⟩] [] 928587255725555556240343202)
  .ret)
  .skip)))))
 (.region [⟨true, ⟨(some 90), .bin .add (.t 76) (.c (.int .i64 (.ofNat 1))), [], none⟩⟩,
   ⟨false, ⟨(some 76), .mov (.t 90), [0], none⟩⟩] [] 1547425049106725343623921668)))))))
 (.seq (.region [⟨true, ⟨(some 91), .load (some 5) (.t 1), [], none⟩⟩,
   ⟨true, ⟨(some 92), .call .heap (.f 58) [(.t 91)], [0], none⟩⟩,
   ⟨true, ⟨(some 93), .call .heap (.f 57) [(.t 92)], [1, 1], none⟩⟩,
   ⟨true, ⟨(some 2), .mov (.t 93), [2, 2, 0, 1, 2], none⟩⟩] [] 17331292776256844198653722786)
 .ret)))))))))⟩
def f15 : FFn := ⟨68, [.tmp 2, .cell 3 (some 4), .tmp 4, .tmp 5, .tmp 6],
 (.seq (.region [⟨true, ⟨(some 2), .mov (.c .nilsl), [], none⟩⟩,
   ⟨true, ⟨(some 3), .alloc .dyn (.agg [.nilsl, (.int .i64 (.ofNat 0)), .nilsl, .nilsl]), [], none⟩⟩,
   ⟨true, ⟨(some 4), .mov (.c (.int .i64 (.ofNat 0))), [0], none⟩⟩,
   ⟨true, ⟨(some 5), .mov (.c (.int .i64 (.ofNat 0))), [2], none⟩⟩,
   ⟨true, ⟨(some 6), .mov (.c (.int .i64 (.ofNat 0))), [3], none⟩⟩] [] 116)
 (.seq (.seq (.region [⟨true, ⟨(some 9), .mov (.t 0), [], none⟩⟩,
   ⟨true, ⟨(some 10), .bin .lss (.t 9) (.c (.int .i64 (.ofNat 0))), [0], none⟩⟩,
   ⟨true, ⟨(some 11), .mov (.t 10), [1], none⟩⟩,
   ⟨true, ⟨(some 12), .mov (.t 0), [2], (some (11, false))⟩⟩,
   ⟨true, ⟨(some 13), .bin .gtr (.t 12) (.c (.int .i64 (.ofNat 16))), [3, 2], (some (11, false))⟩⟩,
   ⟨true, ⟨(some 14), .pick (.t 11) (.c (.bool true)) (.t 13), [2, 4], none⟩⟩] [] 15872)
 (.cond (.t 14)
  (.seq (.region [⟨true, ⟨(some 15), .load (some 4) (.t 3), [], none⟩⟩,
    ⟨true, ⟨(some 2), .mov (.c .nilsl), [], none⟩⟩,
    ⟨false, ⟨none, .store 4 (.t 3) (.t 15), [0, 1, 0, 1], none⟩⟩,
    ⟨true, ⟨(some 4), .mov (.c (.int .i64 (.ofNat 0))), [2, 0, 1, 2], none⟩⟩,
    ⟨true, ⟨(some 5), .mov (.c (.int .i64 (.ofNat 0))), [3, 0, 1, 2, 3], none⟩⟩,
    ⟨true, ⟨(some 6), .mov (.c (.int .i64 (.ofNat 2))), [4, 0, 1, 2, 3, 4], none⟩⟩] [] 49153)
  .ret)
  .skip))
 (.seq (.region [⟨true, ⟨(some 16), .build [(.str []), (.bool false), (.bool false), (.bool false), (.int .i64 (.ofNat 0))] [(0, 1, (.c (.str [97]))), (2, 1, (.c (.bool true)))], [], none⟩⟩,
   ⟨true, ⟨(some 17), .build [(.str []), (.bool false), (.bool false), (.bool false), (.int .i64 (.ofNat 0))] [(0, 1, (.c (.str [102]))), (4, 1, (.c (.int .i64 (.ofNat 1))))], [], none⟩⟩,
   ⟨true, ⟨(some 18), .build [(.str []), (.bool false), (.bool false), (.bool false), (.int .i64 (.ofNat 0))] [(0, 1, (.c (.str [98]))), (2, 1, (.c (.bool true)))], [], none⟩⟩,
   ⟨true, ⟨(some 19), .bslice false .dyn 5 3 [(.str []), (.bool false), (.bool false), (.bool false), (.int .i64 (.ofNat 0)), (.str []), (.bool false), (.bool false), (.bool false), (.int .i64 (.ofNat 0)), (.str []), (.bool false), (.bool false), (.bool false), (.int .i64 (.ofNat 0))] [(0, 5, (.t 16)), (5, 5, (.t 17)), (10, 5, (.t 18))], [0, 1, 2], none⟩⟩,
   ⟨false, ⟨(some 2), .mov (.t 19), [3, 0, 1, 2, 3], none⟩⟩] [] 999536)
 (.seq (.region [⟨true, ⟨(some 20), .bslice false .dyn 1 3 [(.int .i64 (.ofNat 0)), (.int .i64 (.ofNat 0)), (.int .i64 (.ofNat 0))] [(0, 1, (.c (.int .i64 (.ofNat 0)))), (1, 1, (.c (.int .i64 (.ofNat 1)))), (2, 1, (.c (.int .i64 (.ofNat 2))))], [], none⟩⟩,
   ⟨true, ⟨(some 21), .mov (.t 0), [], none⟩⟩,
   ⟨true, ⟨(some 22), .bin .add (.t 21) (.c (.int .i64 (.ofNat 2))), [1], none⟩⟩,
   ⟨true, ⟨(some 23), .build [(.int .i64 (.ofNat 0)), (.int .i64 (.ofNat 0)), (.int .i64 (.ofNat 0))] [(0, 1, (.c (.int .i64 (.ofNat 0)))), (1, 1, (.c (.int .i64 (.ofNat 0)))), (2, 1, (.c (.int .i64 (.ofNat 0))))], [], none⟩⟩,
   ⟨true, ⟨(some 24), .build [(.int .i64 (.ofNat 0)), (.int .i64 (.ofNat 0)), (.int .i64 (.ofNat 0))] [(0, 1, (.c (.int .i64 (.ofNat 0)))), (1, 1, (.c (.int .i64 (.ofNat 1)))), (2, 1, (.c (.int .i64 (.ofNat 1))))], [], none⟩⟩,
   ⟨true, ⟨(some 25), .bslice false .dyn 3 2 [(.int .i64 (.ofNat 0)), (.int .i64 (.ofNat 0)), (.int .i64 (.ofNat 0)), (.int .i64 (.ofNat 0)), (.int .i64 (.ofNat 0)), (.int .i64 (.ofNat 0))] [(0, 3, (.t 23)), (3, 3, (.t 24))], [3, 4], none⟩⟩,
   ⟨true, ⟨(some 26), .build [.nilsl, (.int .i64 (.ofNat 0)), .nilsl, .nilsl] [(0, 1, (.t 20)), (1, 1, (.t 22)), (3, 1, (.t 25))], [0, 2, 5], none⟩⟩,
   ⟨false, ⟨none, .store 4 (.t 3) (.t 26), [6, 0, 1, 2, 3, 4, 5, 6], none⟩⟩] [] 133169152)
 (.seq (.seq (.region [⟨true, ⟨(some 27), .mov (.t 0), [], none⟩⟩,
   ⟨true, ⟨(some 28), .mov (.c (.int .i64 (.ofNat 0))), [], none⟩⟩] [] 0)
 (.block 0 (.loop (.seq (.region [⟨true, ⟨(some 29), .bin .lss (.t 28) (.t 27), [], none⟩⟩] [] 0)
 (.seq (.cond (.t 29)
  .skip
  (.exit 0))
 (.seq (.block 1 (.seq (.region [⟨true, ⟨(some 30), .mov (.t 28), [], none⟩⟩,
   ⟨true, ⟨(some 7), .mov (.t 30), [0, 0], none⟩⟩] [] 1610612736)
 (.region [⟨true, ⟨(some 31), .faddr 3 (.t 3), [], none⟩⟩,
   ⟨true, ⟨(some 32), .load none (.t 31), [0], none⟩⟩,
   ⟨true, ⟨(some 33), .mov (.t 7), [], none⟩⟩,
   ⟨true, ⟨(some 34), .bin .add (.c (.int .i64 (.ofNat 1))) (.t 33), [2], none⟩⟩,
   ⟨true, ⟨(some 35), .mov (.t 7), [], none⟩⟩,
   ⟨true, ⟨(some 36), .bin .add (.c (.int .i64 (.ofNat 2))) (.t 35), [4], none⟩⟩,
   ⟨true, ⟨(some 37), .build [(.int .i64 (.ofNat 0)), (.int .i64 (.ofNat 0)), (.int .i64 (.ofNat 0))] [(0, 1, (.t 34)), (1, 1, (.c (.int .i64 (.ofNat 0)))), (2, 1, (.t 36))], [3, 5], none⟩⟩,
   ⟨true, ⟨(some 38), .bslice false .dyn 3 1 [(.int .i64 (.ofNat 0)), (.int .i64 (.ofNat 0)), (.int .i64 (.ofNat 0))] [(0, 3, (.t 37))], [6], none⟩⟩,
   ⟨true, ⟨(some 39), .append .dyn 3 24 (.t 32) (.t 38), [1, 7], none⟩⟩,
   ⟨true, ⟨(some 40), .faddr 3 (.t 3), [0, 1, 2, 3, 4, 5, 6, 7, 8], none⟩⟩,
   ⟨false, ⟨none, .store 1 (.t 40) (.t 39), [9, 8, 8, 0, 1, 2, 3, 4, 5, 6, 7, 8], none⟩⟩] [] 2196875772032)))
 (.region [⟨true, ⟨(some 41), .bin .add (.t 28) (.c (.int .i64 (.ofNat 1))), [], none⟩⟩,
   ⟨false, ⟨(some 28), .mov (.t 41), [0], none⟩⟩] [] 2199023255552)))))))
 (.seq (.region [⟨true, ⟨(some 42), .faddr 3 (.t 3), [], none⟩⟩,
   ⟨true, ⟨(some 43), .load none (.t 42), [0], none⟩⟩,
   ⟨true, ⟨(some 44), .mov (.t 0), [], none⟩⟩,
   ⟨true, ⟨(some 45), .bin .add (.t 44) (.c (.int .i64 (.ofNat 1))), [2], none⟩⟩,
   ⟨true, ⟨(some 46), .mov (.t 0), [], none⟩⟩,
   ⟨true, ⟨(some 47), .bin .add (.t 46) (.c (.int .i64 (.ofNat 1))), [4], none⟩⟩,
   ⟨true, ⟨(some 48), .build [(.int .i64 (.ofNat 0)), (.int .i64 (.ofNat 0)), (.int .i64 (.ofNat 0))] [(0, 1, (.t 45)), (1, 1, (.c (.int .i64 (.ofNat 2)))), (2, 1, (.t 47))], [3, 5], none⟩⟩,
   ⟨true, ⟨(some 49), .bslice false .dyn 3 1 [(.int .i64 (.ofNat 0)), (.int .i64 (.ofNat 0)), (.int .i64 (.ofNat 0))] [(0, 3, (.t 48))], [6], none⟩⟩,
   ⟨true, ⟨(some 50), .append .dyn 3 24 (.t 43) (.t 49), [1, 7], none⟩⟩,
   ⟨true, ⟨(some 51), .faddr 3 (.t 3), [0, 1, 2, 3, 4, 5, 6, 7, 8], none⟩⟩,
   ⟨false, ⟨none, .store 1 (.t 51) (.t 50), [9, 8, 8, 0, 1, 2, 3, 4, 5, 6, 7, 8], none⟩⟩] [] 4499201983512576)
 (.seq (.seq (.region [⟨true, ⟨(some 52), .faddr 1 (.t 3), [], none⟩⟩,
   ⟨true, ⟨(some 53), .load none (.t 52), [0], none⟩⟩,
   ⟨true, ⟨(some 54), .mov (.c (.int .i64 (.ofNat 0))), [], none⟩⟩] [] 4503599627370496)
 (.block 2 (.loop (.seq (.region [⟨true, ⟨(some 55), .bin .lss (.t 54) (.t 53), [], none⟩⟩] [] 0)
 (.seq (.cond (.t 55)
  .skip
  (.exit 2))
 (.seq (.block 3 (.seq (.region [⟨true, ⟨(some 56), .mov (.t 54), [], none⟩⟩,
   ⟨true, ⟨(some 8), .mov (.t 56), [0, 0], none⟩⟩] [] 108086391056891904)
 (.region [⟨true, ⟨(some 57), .faddr 2 (.t 3), [], none⟩⟩,
   ⟨true, ⟨(some 58), .load none (.t 57), [0], none⟩⟩,
   ⟨true, ⟨(some 59), .mov (.t 8), [], none⟩⟩,
   ⟨true, ⟨(some 60), .bslice false .dyn 1 1 [(.int .i64 (.ofNat 0))] [(0, 1, (.t 59))], [2], none⟩⟩,
   ⟨true, ⟨(some 61), .append .dyn 1 8 (.t 58) (.t 60), [1, 3], none⟩⟩,
   ⟨true, ⟨(some 62), .faddr 2 (.t 3), [0, 1, 2, 3, 4], none⟩⟩,
   ⟨false, ⟨none, .store 1 (.t 62) (.t 61), [5, 4, 4, 0, 1, 2, 3, 4], none⟩⟩] [] 9079256848778920192)))
 (.region [⟨true, ⟨(some 63), .bin .add (.t 54) (.c (.int .i64 (.ofNat 1))), [], none⟩⟩,
   ⟨false, ⟨(some 54), .mov (.t 63), [0], none⟩⟩] [] 9223372036854775808)))))))
 (.seq (.region [⟨true, ⟨(some 64), .mov (.t 2), [], none⟩⟩,
   ⟨true, ⟨(some 65), .load (some 4) (.t 3), [], none⟩⟩,
   ⟨true, ⟨(some 66), .mov (.t 0), [], none⟩⟩,
   ⟨true, ⟨(some 67), .bin .add (.t 66) (.c (.int .i64 (.ofNat 1))), [2], none⟩⟩,
   ⟨false, ⟨(some 2), .mov (.t 64), [0, 0], none⟩⟩,
   ⟨false, ⟨none, .store 4 (.t 3) (.t 65), [1, 4, 0, 1, 4], none⟩⟩,
   ⟨true, ⟨(some 4), .mov (.c (.int .i64 (.ofNat 1))), [5, 0, 1, 4, 5], none⟩⟩,
   ⟨true, ⟨(some 5), .mov (.t 67), [3, 6, 0, 1, 2, 3, 4, 5, 6], none⟩⟩,
   ⟨true, ⟨(some 6), .mov (.c (.int .i64 (.ofNat 0))), [7, 0, 1, 2, 3, 4, 5, 6, 7], none⟩⟩] [] 276728182703407497217)
 .ret))))))))⟩
def f18 : FFn := ⟨124, [.cell 4 (some 5), .tmp 5],
 (.seq (.region [⟨true, ⟨(some 4), .alloc .dyn (.agg [(.int .i64 (.ofNat 0)), (.int .i64 (.ofNat 0)), (.int .i64 (.ofNat 0)), (.int .i64 (.ofNat 0)), .nilsl]), [], none⟩⟩,
   ⟨true, ⟨(some 5), .mov (.c (.int .i64 (.ofNat 0))), [], none⟩⟩] [] 32)
 (.seq (.seq (.region [⟨true, ⟨(some 14), .mov (.t 0), [], none⟩⟩,
   ⟨true, ⟨(some 15), .mov (.t 1), [], none⟩⟩,
   ⟨true, ⟨(some 16), .call .heap (.f 34) [(.t 14), (.t 15)], [0, 1], none⟩⟩,
   ⟨true, ⟨(some 6), .mov (.t 16), [2, 2, 0, 1, 2], none⟩⟩] [] 114688)
 (.seq (.region [⟨true, ⟨(some 17), .mov (.t 6), [], none⟩⟩,
   ⟨true, ⟨(some 18), .bin .neq (.t 17) (.c (.int .i64 (.ofNat 0))), [0], none⟩⟩] [] 131072)
 (.cond (.t 18)
  (.seq (.region [⟨true, ⟨(some 19), .build [(.int .i64 (.ofNat 0)), (.int .i64 (.ofNat 0)), (.int .i64 (.ofNat 0)), (.int .i64 (.ofNat 0)), .nilsl] [], [], none⟩⟩,
    ⟨true, ⟨(some 20), .mov (.t 6), [], none⟩⟩,
    ⟨false, ⟨none, .store 5 (.t 4) (.t 19), [0, 0], none⟩⟩,
    ⟨true, ⟨(some 5), .mov (.t 20), [1, 2, 0, 1, 2], none⟩⟩] [] 1835075)
  .ret)
  .skip)))
 (.seq (.region [⟨true, ⟨(some 21), .mov (.t 1), [], none⟩⟩,
   ⟨true, ⟨(some 7), .mov (.t 21), [0, 0], none⟩⟩] [] 2359394)
 (.seq (.seq (.region [⟨true, ⟨(some 22), .mov (.t 0), [], none⟩⟩] [] 1)
 (.block 0 (.seq (.region [⟨true, ⟨(some 24), .bin .eql (.t 22) (.c (.int .i64 (.ofNat 1))), [], none⟩⟩,
   ⟨true, ⟨(some 23), .mov (.t 24), [0], none⟩⟩] [] 16777216)
 (.cond (.t 23)
  (.seq (.region [⟨true, ⟨(some 25), .build [.nilsl, (.int .i64 (.ofNat 0))] [(1, 1, (.c (.int .i64 (.ofNat 0))))], [], none⟩⟩,
    ⟨true, ⟨(some 8), .alloc .dyn (.agg [.nilsl, (.int .i64 (.ofNat 0))]), [], none⟩⟩,
    ⟨false, ⟨none, .store 2 (.t 8) (.t 25), [1, 0, 0, 1], none⟩⟩] [] 46137344)
  (.seq (.seq (.region [⟨true, ⟨(some 26), .mov (.t 7), [], none⟩⟩,
    ⟨true, ⟨(some 27), .mov (.c (.int .i64 (.ofNat 0))), [], none⟩⟩] [] 0)
  (.block 1 (.loop (.seq (.region [⟨true, ⟨(some 28), .bin .lss (.t 27) (.t 26), [], none⟩⟩] [] 0)
  (.seq (.cond (.t 28)
   .skip
   (.exit 1))
  (.seq (.block 2 (.region [⟨true, ⟨(some 29), .faddr 0 (.t 8), [], none⟩⟩,
    ⟨true, ⟨(some 30), .load none (.t 29), [0], none⟩⟩,
    ⟨true, ⟨(some 31), .bslice false .dyn 1 2 [(.int .i64 (.ofNat 0)), (.int .i64 (.ofNat 0))] [(0, 1, (.c (.int .i64 (.ofNat 0)))), (1, 1, (.c (.int .i64 (.ofNat 1))))], [], none⟩⟩,
    ⟨true, ⟨(some 32), .append .dyn 1 8 (.t 30) (.t 31), [1, 2], none⟩⟩,
    ⟨true, ⟨(some 33), .faddr 0 (.t 8), [0, 1, 2, 3], none⟩⟩,
    ⟨false, ⟨none, .store 1 (.t 33) (.t 32), [4, 3, 3, 0, 1, 2, 3], none⟩⟩] [] 16911433728))
  (.region [⟨true, ⟨(some 34), .bin .add (.t 27) (.c (.int .i64 (.ofNat 1))), [], none⟩⟩,
    ⟨false, ⟨(some 27), .mov (.t 34), [0], none⟩⟩] [] 17179869184)))))))
  (.seq (.region [⟨true, ⟨(some 35), .mov (.t 7), [], none⟩⟩,
    ⟨true, ⟨(some 36), .bin .add (.t 35) (.c (.int .i64 (.ofNat 1))), [0], none⟩⟩,
    ⟨true, ⟨(some 37), .bin .mul (.c (.int .i64 (.ofNat 4))) (.t 36), [1], none⟩⟩,
    ⟨true, ⟨(some 38), .mov (.t 7), [], none⟩⟩,
    ⟨true, ⟨(some 39), .bin .mul (.c (.int .i64 (.ofNat 4))) (.t 38), [3], none⟩⟩,
    ⟨true, ⟨(some 40), .bin .add (.t 39) (.c (.int .i64 (.ofNat 2))), [4], none⟩⟩,
    ⟨true, ⟨(some 41), .build [.nilsl, (.int .i64 (.ofNat 0))] [(1, 1, (.c (.int .i64 (.ofNat 2))))], [], none⟩⟩,
    ⟨true, ⟨(some 42), .load (some 2) (.t 8), [], none⟩⟩,
    ⟨true, ⟨(some 43), .bslice false .dyn 2 2 [.nilsl, (.int .i64 (.ofNat 0)), .nilsl, (.int .i64 (.ofNat 0))] [(0, 2, (.t 41)), (2, 2, (.t 42))], [6, 7], none⟩⟩,
    ⟨true, ⟨(some 44), .call .heap (.f 61) [(.t 37), (.t 40), (.c (.int .i64 (.ofNat 2))), (.t 43)], [2, 5, 8], none⟩⟩,
    ⟨false, ⟨none, .store 5 (.t 4) (.t 44), [9, 9, 0, 1, 2, 3, 4, 5, 6, 7, 8, 9], none⟩⟩,
    ⟨true, ⟨(some 5), .mov (.c (.int .i64 (.ofNat 0))), [10, 0, 1, 2, 3, 4, 5, 6, 7, 8, 9, 10], none⟩⟩] [] 35150213677440)
  .ret)))
  (.seq (.region [⟨true, ⟨(some 46), .bin .eql (.t 22) (.c (.int .i64 (.ofNat 2))), [], none⟩⟩,
    ⟨true, ⟨(some 45), .mov (.t 46), [0], none⟩⟩] [] 70368752566272)
  (.cond (.t 45)
   (.seq (.region [⟨true, ⟨(some 47), .mov (.t 7), [], none⟩⟩,
     ⟨true, ⟨(some 48), .bin .mul (.c (.int .i64 (.ofNat 2))) (.t 47), [0], none⟩⟩,
     ⟨true, ⟨(some 49), .bin .sub (.t 48) (.c (.int .i64 (.ofNat 1))), [1], none⟩⟩,
     ⟨true, ⟨(some 50), .call .heap (.f 62) [(.c (.int .i64 (.ofNat 2))), (.t 49)], [2], none⟩⟩,
     ⟨true, ⟨(some 51), .mov (.t 7), [], none⟩⟩,
     ⟨true, ⟨(some 52), .bin .sub (.t 51) (.c (.int .i64 (.ofNat 1))), [4], none⟩⟩,
     ⟨true, ⟨(some 53), .call .heap (.f 62) [(.c (.int .i64 (.ofNat 3))), (.t 52)], [5, 3], none⟩⟩,
     ⟨true, ⟨(some 54), .bin .mul (.c (.int .i64 (.ofNat 2))) (.t 53), [6], none⟩⟩,
     ⟨true, ⟨(some 9), .mov (.t 50), [3, 6, 0, 1, 2, 3], none⟩⟩,
     ⟨true, ⟨(some 10), .mov (.t 54), [7, 8, 0, 1, 2, 3, 4, 5, 6, 7, 8], none⟩⟩] [] 35923243906891776)
   (.seq (.region [⟨true, ⟨(some 55), .mov (.t 9), [], none⟩⟩,
     ⟨true, ⟨(some 56), .mov (.t 10), [], none⟩⟩,
     ⟨true, ⟨(some 57), .mov (.t 9), [], none⟩⟩,
     ⟨true, ⟨(some 58), .mov (.t 10), [], none⟩⟩,
     ⟨true, ⟨(some 59), .bin .sub (.t 57) (.t 58), [2, 3], none⟩⟩,
     ⟨true, ⟨(some 60), .mov (.t 7), [], none⟩⟩,
     ⟨true, ⟨(some 61), .bin .mul (.c (.int .i64 (.ofNat 2))) (.t 60), [5], none⟩⟩,
     ⟨true, ⟨(some 62), .bin .sub (.t 61) (.c (.int .i64 (.ofNat 2))), [6], none⟩⟩,
     ⟨true, ⟨(some 63), .build [.nilsl, (.int .i64 (.ofNat 0))] [(1, 1, (.t 62))], [7], none⟩⟩,
     ⟨true, ⟨(some 64), .bslice false .dyn 1 2 [(.int .i64 (.ofNat 0)), (.int .i64 (.ofNat 0))] [(0, 1, (.c (.int .i64 (.ofNat 0)))), (1, 1, (.c (.int .i64 (.ofNat 1))))], [], none⟩⟩,
     ⟨true, ⟨(some 65), .build [.nilsl, (.int .i64 (.ofNat 0))] [(0, 1, (.t 64)), (1, 1, (.c (.int .i64 (.ofNat 0))))], [9], none⟩⟩,
     ⟨true, ⟨(some 66), .bslice false .dyn 2 2 [.nilsl, (.int .i64 (.ofNat 0)), .nilsl, (.int .i64 (.ofNat 0))] [(0, 2, (.t 63)), (2, 2, (.t 65))], [8, 10], none⟩⟩,
     ⟨true, ⟨(some 67), .call .heap (.f 61) [(.t 55), (.t 56), (.t 59), (.t 66)], [0, 1, 4, 11], none⟩⟩,
     ⟨false, ⟨none, .store 5 (.t 4) (.t 67), [12, 12, 0, 1, 2, 3, 4, 5, 6, 7, 8, 9, 10, 11, 12], none⟩⟩,
     ⟨true, ⟨(some 5), .mov (.c (.int .i64 (.ofNat 0))), [13, 0, 1, 2, 3, 4, 5, 6, 7, 8, 9, 10, 11, 12, 13], none⟩⟩] [] 295111876382333863552)
   .ret))
   (.seq (.region [⟨true, ⟨(some 69), .bin .eql (.t 22) (.c (.int .i64 (.ofNat 3))), [], none⟩⟩,
     ⟨true, ⟨(some 68), .mov (.t 69), [0], none⟩⟩] [] 590295845543077740544)
   (.cond (.t 68)
    (.seq (.region [⟨true, ⟨(some 70), .bslice false .dyn 1 3 [(.int .i64 (.ofNat 0)), (.int .i64 (.ofNat 0)), (.int .i64 (.ofNat 0))] [(0, 1, (.c (.int .i64 (.ofNat 6)))), (1, 1, (.c (.int .i64 (.ofNat 14)))), (2, 1, (.c (.int .i64 (.ofNat 34))))], [], none⟩⟩,
      ⟨true, ⟨(some 71), .mov (.t 7), [], none⟩⟩,
      ⟨true, ⟨(some 72), .bin .sub (.t 71) (.c (.int .i64 (.ofNat 2))), [1], none⟩⟩,
      ⟨true, ⟨(some 73), .iaddr none 1 (.t 70) (.t 72), [0, 2], none⟩⟩,
      ⟨true, ⟨(some 74), .load none (.t 73), [3], none⟩⟩,
      ⟨true, ⟨(some 11), .mov (.t 74), [4, 0, 1, 2, 3, 4], none⟩⟩] [] 36893488147419107426304)
    (.seq (.region [⟨true, ⟨(some 75), .mov (.t 7), [], none⟩⟩,
      ⟨true, ⟨(some 76), .bin .sub (.t 75) (.c (.int .i64 (.ofNat 1))), [0], none⟩⟩,
      ⟨true, ⟨(some 77), .bin .mul (.c (.int .i64 (.ofNat 3))) (.t 76), [1], none⟩⟩,
      ⟨true, ⟨(some 78), .build [.nilsl, (.int .i64 (.ofNat 0))] [(1, 1, (.t 77))], [2], none⟩⟩,
      ⟨true, ⟨(some 12), .alloc .dyn (.agg [.nilsl, (.int .i64 (.ofNat 0))]), [], none⟩⟩,
      ⟨false, ⟨none, .store 2 (.t 12) (.t 78), [4, 3, 0, 1, 2, 3, 4], none⟩⟩] [] 566683977944357425643520)
    (.seq (.seq (.region [⟨true, ⟨(some 79), .mov (.t 7), [], none⟩⟩,
      ⟨true, ⟨(some 80), .bin .sub (.t 79) (.c (.int .i64 (.ofNat 1))), [0], none⟩⟩,
      ⟨true, ⟨(some 81), .mov (.c (.int .i64 (.ofNat 0))), [], none⟩⟩] [] 604462909807314587353216)
    (.block 3 (.loop (.seq (.region [⟨true, ⟨(some 82), .bin .lss (.t 81) (.t 80), [], none⟩⟩] [] 0)
    (.seq (.cond (.t 82)
     .skip
     (.exit 3))
    (.seq (.block 4 (.seq (.region [⟨true, ⟨(some 83), .mov (.t 81), [], none⟩⟩,
      ⟨true, ⟨(some 13), .mov (.t 83), [0, 0], none⟩⟩] [] 14507109835375550096474112)
    (.region [⟨true, ⟨(some 84), .faddr 0 (.t 12), [], none⟩⟩,
      ⟨true, ⟨(some 85), .load none (.t 84), [0], none⟩⟩,
      ⟨true, ⟨(some 86), .mov (.t 13), [], none⟩⟩,
      ⟨true, ⟨(some 87), .bin .mul (.c (.int .i64 (.ofNat 3))) (.t 86), [2], none⟩⟩,
      ⟨true, ⟨(some 88), .bslice false .dyn 1 1 [(.int .i64 (.ofNat 0))] [(0, 1, (.t 87))], [3], none⟩⟩,
      ⟨true, ⟨(some 89), .append .dyn 1 8 (.t 85) (.t 88), [1, 4], none⟩⟩,
      ⟨true, ⟨(some 90), .faddr 0 (.t 12), [0, 1, 2, 3, 4, 5], none⟩⟩,
      ⟨false, ⟨none, .store 1 (.t 90) (.t 89), [6, 5, 5, 0, 1, 2, 3, 4, 5], none⟩⟩] [] 2456537265456926483002957824)))
    (.region [⟨true, ⟨(some 91), .bin .add (.t 81) (.c (.int .i64 (.ofNat 1))), [], none⟩⟩,
      ⟨false, ⟨(some 81), .mov (.t 91), [0], none⟩⟩] [] 2475880078570760549798248448)))))))
    (.seq (.region [⟨true, ⟨(some 92), .mov (.t 11), [], none⟩⟩,
      ⟨true, ⟨(some 93), .mov (.t 11), [], none⟩⟩,
      ⟨true, ⟨(some 94), .bin .sub (.t 93) (.c (.int .i64 (.ofNat 1))), [1], none⟩⟩,
      ⟨true, ⟨(some 95), .load (some 2) (.t 12), [], none⟩⟩,
      ⟨true, ⟨(some 96), .bslice false .dyn 2 1 [.nilsl, (.int .i64 (.ofNat 0))] [(0, 2, (.t 95))], [3], none⟩⟩,
      ⟨true, ⟨(some 97), .call .heap (.f 61) [(.t 92), (.t 94), (.c (.int .i64 (.ofNat 0))), (.t 96)], [0, 2, 4], none⟩⟩,
      ⟨false, ⟨none, .store 5 (.t 4) (.t 97), [5, 5, 0, 1, 2, 3, 4, 5], none⟩⟩,
      ⟨true, ⟨(some 5), .mov (.c (.int .i64 (.ofNat 0))), [6, 0, 1, 2, 3, 4, 5, 6], none⟩⟩] [] 311964516677374673162103429120)
    .ret))))
    (.seq (.region [⟨true, ⟨(some 99), .bin .eql (.t 22) (.c (.int .i64 (.ofNat 4))), [], none⟩⟩,
      ⟨true, ⟨(some 98), .mov (.t 99), [0], none⟩⟩] [] 633825300409262605927708622848)
    (.cond (.t 98)
     (.seq (.region [⟨true, ⟨(some 100), .mov (.t 7), [], none⟩⟩,
       ⟨true, ⟨(some 101), .call .heap (.f 62) [(.c (.int .i64 (.ofNat 2))), (.t 100)], [0], none⟩⟩,
       ⟨true, ⟨(some 102), .mov (.t 7), [], none⟩⟩,
       ⟨true, ⟨(some 103), .bin .add (.t 102) (.c (.int .i64 (.ofNat 1))), [2], none⟩⟩,
       ⟨true, ⟨(some 104), .mov (.t 7), [], none⟩⟩,
       ⟨true, ⟨(some 105), .call .heap (.f 62) [(.c (.int .i64 (.ofNat 2))), (.t 104)], [4, 1], none⟩⟩,
       ⟨true, ⟨(some 106), .mov (.t 7), [], none⟩⟩,
       ⟨true, ⟨(some 107), .bin .sub (.t 105) (.t 106), [5, 6], none⟩⟩,
       ⟨true, ⟨(some 108), .bin .sub (.t 107) (.c (.int .i64 (.ofNat 1))), [7], none⟩⟩,
       ⟨true, ⟨(some 109), .bslice false .dyn 1 1 [(.int .i64 (.ofNat 0))] [(0, 1, (.c (.int .i64 (.ofNat 0))))], [], none⟩⟩,
       ⟨true, ⟨(some 110), .build [.nilsl, (.int .i64 (.ofNat 0))] [(0, 1, (.t 109)), (1, 1, (.c (.int .i64 (.ofNat 2))))], [9], none⟩⟩,
       ⟨true, ⟨(some 111), .bslice false .dyn 2 1 [.nilsl, (.int .i64 (.ofNat 0))] [(0, 2, (.t 110))], [10], none⟩⟩,
       ⟨true, ⟨(some 112), .call .heap (.f 61) [(.t 101), (.t 103), (.t 108), (.t 111)], [1, 3, 8, 11, 5], none⟩⟩,
       ⟨false, ⟨none, .store 5 (.t 4) (.t 112), [12, 12, 0, 1, 2, 3, 4, 5, 6, 7, 8, 9, 10, 11, 12], none⟩⟩,
       ⟨true, ⟨(some 5), .mov (.c (.int .i64 (.ofNat 0))), [13, 0, 1, 2, 3, 4, 5, 6, 7, 8, 9, 10, 11, 12, 13], none⟩⟩] [] 10383642979119484085009870131036288)
     .ret)
     .skip))))))))))
 (.seq (.region [⟨true, ⟨(some 113), .mov (.t 7), [], none⟩⟩,
   ⟨true, ⟨(some 114), .mov (.t 7), [], none⟩⟩,
   ⟨true, ⟨(some 115), .call .heap (.f 62) [(.c (.int .i64 (.ofNat 2))), (.t 114)], [1], none⟩⟩,
   ⟨true, ⟨(some 116), .bin .mul (.t 113) (.t 115), [0, 2], none⟩⟩,
   ⟨true, ⟨(some 117), .mov (.t 7), [], none⟩⟩,
   ⟨true, ⟨(some 118), .mov (.t 7), [], none⟩⟩,
   ⟨true, ⟨(some 119), .call .heap (.f 62) [(.c (.int .i64 (.ofNat 2))), (.t 118)], [5, 2], none⟩⟩,
   ⟨true, ⟨(some 120), .bin .mul (.t 117) (.t 119), [4, 6], none⟩⟩,
   ⟨true, ⟨(some 121), .build [.nilsl, (.int .i64 (.ofNat 0))] [(1, 1, (.c (.int .i64 (.ofNat 2))))], [], none⟩⟩,
   ⟨true, ⟨(some 122), .bslice false .dyn 2 1 [.nilsl, (.int .i64 (.ofNat 0))] [(0, 2, (.t 121))], [8], none⟩⟩,
   ⟨true, ⟨(some 123), .call .heap (.f 61) [(.t 116), (.t 120), (.c (.int .i64 (.ofNat 0))), (.t 122)], [3, 7, 9, 6], none⟩⟩,
   ⟨false, ⟨none, .store 5 (.t 4) (.t 123), [10, 10, 0, 1, 2, 3, 4, 5, 6, 7, 8, 9, 10], none⟩⟩,
   ⟨false, ⟨(some 5), .mov (.c (.int .i64 (.ofNat 0))), [11, 0, 1, 2, 3, 4, 5, 6, 7, 8, 9, 10, 11], none⟩⟩] [] 21257263655754234368261202346002874496)
 .ret)))))⟩
def f31 : FFn := ⟨70, [.cell 2 (some 4), .tmp 3],
 (.seq (.region [⟨true, ⟨(some 2), .alloc .dyn (.agg [(.int .i64 (.ofNat 0)), (.int .i64 (.ofNat 0)), .nilsl, .nilsl]), [], none⟩⟩,
   ⟨true, ⟨(some 3), .mov (.c (.int .i64 (.ofNat 0))), [], none⟩⟩] [] 8)
 (.seq (.seq (.region [⟨true, ⟨(some 9), .mov (.t 0), [], none⟩⟩,
   ⟨true, ⟨(some 10), .bin .lss (.t 9) (.c (.int .i64 (.ofNat 2))), [0], none⟩⟩,
   ⟨true, ⟨(some 11), .mov (.t 10), [1], none⟩⟩,
   ⟨true, ⟨(some 12), .mov (.t 0), [2], (some (11, false))⟩⟩,
   ⟨true, ⟨(some 13), .bin .gtr (.t 12) (.c (.int .i64 (.ofNat 3))), [3, 2], (some (11, false))⟩⟩,
   ⟨true, ⟨(some 14), .pick (.t 11) (.c (.bool true)) (.t 13), [2, 4], none⟩⟩] [] 15872)
 (.cond (.t 14)
  (.seq (.region [⟨true, ⟨(some 15), .build [(.int .i64 (.ofNat 0)), (.int .i64 (.ofNat 0)), .nilsl, .nilsl] [], [], none⟩⟩,
    ⟨false, ⟨none, .store 4 (.t 2) (.t 15), [0, 0], none⟩⟩,
    ⟨true, ⟨(some 3), .mov (.c (.int .i64 (.ofNat 2))), [1, 0, 1], none⟩⟩] [] 49153)
  .ret)
  .skip))
 (.seq (.region [⟨true, ⟨(some 16), .bslice false .dyn 1 2 [(.int .i64 (.ofNat 0)), (.int .i64 (.ofNat 0))] [(0, 1, (.c (.int .i64 (.ofNat 6)))), (1, 1, (.c (.int .i64 (.ofNat 14))))], [], none⟩⟩,
   ⟨true, ⟨(some 17), .mov (.t 0), [], none⟩⟩,
   ⟨true, ⟨(some 18), .bin .sub (.t 17) (.c (.int .i64 (.ofNat 2))), [1], none⟩⟩,
   ⟨true, ⟨(some 19), .iaddr none 1 (.t 16) (.t 18), [0, 2], none⟩⟩,
   ⟨true, ⟨(some 20), .load none (.t 19), [3], none⟩⟩,
   ⟨true, ⟨(some 21), .build [(.int .i64 (.ofNat 0)), (.int .i64 (.ofNat 0)), .nilsl, .nilsl] [(0, 1, (.t 20)), (1, 1, (.c (.int .i64 (.ofNat 1))))], [4], none⟩⟩,
   ⟨true, ⟨(some 4), .alloc .dyn (.agg [(.int .i64 (.ofNat 0)), (.int .i64 (.ofNat 0)), .nilsl, .nilsl]), [], none⟩⟩,
   ⟨false, ⟨none, .store 4 (.t 4) (.t 21), [6, 5, 0, 1, 2, 3, 4, 5, 6], none⟩⟩] [] 4145160)
 (.seq (.seq (.region [⟨true, ⟨(some 22), .mov (.t 0), [], none⟩⟩,
   ⟨true, ⟨(some 23), .mov (.c (.int .i64 (.ofNat 0))), [], none⟩⟩] [] 0)
 (.block 0 (.loop (.seq (.region [⟨true, ⟨(some 24), .bin .lss (.t 23) (.t 22), [], none⟩⟩] [] 0)
 (.seq (.cond (.t 24)
  .skip
  (.exit 0))
 (.seq (.block 1 (.seq (.region [⟨true, ⟨(some 25), .mov (.t 23), [], none⟩⟩,
   ⟨true, ⟨(some 5), .mov (.t 25), [0, 0], none⟩⟩] [] 50331648)
 (.seq (.region [⟨true, ⟨(some 26), .faddr 2 (.t 4), [], none⟩⟩,
   ⟨true, ⟨(some 27), .load none (.t 26), [0], none⟩⟩,
   ⟨true, ⟨(some 28), .mov (.t 5), [], none⟩⟩,
   ⟨true, ⟨(some 29), .bin .mul (.c (.int .i64 (.ofNat 3))) (.t 28), [2], none⟩⟩,
   ⟨true, ⟨(some 30), .bslice false .dyn 1 1 [(.int .i64 (.ofNat 0))] [(0, 1, (.t 29))], [3], none⟩⟩,
   ⟨true, ⟨(some 31), .append .dyn 1 8 (.t 27) (.t 30), [1, 4], none⟩⟩,
   ⟨true, ⟨(some 32), .faddr 2 (.t 4), [0, 1, 2, 3, 4, 5], none⟩⟩,
   ⟨false, ⟨none, .store 1 (.t 32) (.t 31), [6, 5, 5, 0, 1, 2, 3, 4, 5], none⟩⟩] [] 8522825728)
 (.seq (.region [⟨true, ⟨(some 33), .mov (.t 0), [], none⟩⟩,
   ⟨true, ⟨(some 34), .bin .mul (.c (.int .i64 (.ofNat 3))) (.t 33), [0], none⟩⟩,
   ⟨true, ⟨(some 35), .mkslice .dyn 1 8 [(.int .i64 (.ofNat 0))] (.t 34) (.t 34), [1, 1], none⟩⟩,
   ⟨true, ⟨(some 6), .mov (.t 35), [2, 0, 1, 2], none⟩⟩] [] 60129542144)
 (.seq (.seq (.region [⟨true, ⟨(some 36), .mov (.t 5), [], none⟩⟩,
   ⟨true, ⟨(some 37), .bin .mul (.c (.int .i64 (.ofNat 3))) (.t 36), [0], none⟩⟩,
   ⟨true, ⟨(some 38), .mov (.t 5), [], none⟩⟩,
   ⟨true, ⟨(some 39), .bin .mul (.c (.int .i64 (.ofNat 3))) (.t 38), [2], none⟩⟩,
   ⟨true, ⟨(some 40), .bin .add (.t 39) (.c (.int .i64 (.ofNat 1))), [3], none⟩⟩,
   ⟨true, ⟨(some 41), .mov (.t 5), [], none⟩⟩,
   ⟨true, ⟨(some 42), .bin .mul (.c (.int .i64 (.ofNat 3))) (.t 41), [5], none⟩⟩,
   ⟨true, ⟨(some 43), .bin .add (.t 42) (.c (.int .i64 (.ofNat 2))), [6], none⟩⟩,
   ⟨true, ⟨(some 44), .mov (.t 5), [], none⟩⟩,
   ⟨true, ⟨(some 45), .mov (.t 0), [], none⟩⟩,
   ⟨true, ⟨(some 46), .bin .add (.t 44) (.t 45), [8, 9], none⟩⟩,
   ⟨true, ⟨(some 47), .bin .sub (.t 46) (.c (.int .i64 (.ofNat 1))), [10], none⟩⟩,
   ⟨true, ⟨(some 48), .mov (.t 0), [], none⟩⟩,
   ⟨true, ⟨(some 49), .bin .rem (.t 47) (.t 48), [11, 12], none⟩⟩,
   ⟨true, ⟨(some 50), .bin .mul (.c (.int .i64 (.ofNat 3))) (.t 49), [13], none⟩⟩,
   ⟨true, ⟨(some 51), .bin .add (.t 50) (.c (.int .i64 (.ofNat 2))), [14], none⟩⟩,
   ⟨true, ⟨(some 52), .bslice false .dyn 1 4 [(.int .i64 (.ofNat 0)), (.int .i64 (.ofNat 0)), (.int .i64 (.ofNat 0)), (.int .i64 (.ofNat 0))] [(0, 1, (.t 37)), (1, 1, (.t 40)), (2, 1, (.t 43)), (3, 1, (.t 51))], [1, 4, 7, 15], none⟩⟩,
   ⟨true, ⟨(some 53), .len 1 (.t 52), [16], none⟩⟩,
   ⟨true, ⟨(some 54), .mov (.c (.int .i64 (.ofNat 0))), [], none⟩⟩] [] 4503530907893792)
 (.block 2 (.loop (.seq (.region [⟨true, ⟨(some 55), .bin .lss (.t 54) (.t 53), [], none⟩⟩] [] 0)
 (.seq (.cond (.t 55)
  .skip
  (.exit 2))
 (.seq (.block 3 (.seq (.region [⟨true, ⟨(some 56), .iaddr none 1 (.t 52) (.t 54), [], none⟩⟩,
   ⟨true, ⟨(some 57), .load none (.t 56), [0], none⟩⟩,
   ⟨true, ⟨(some 8), .mov (.t 57), [1, 0, 1], none⟩⟩] [] 252201579132747776)
 (.region [⟨true, ⟨(some 58), .mov (.t 6), [], none⟩⟩,
   ⟨true, ⟨(some 59), .mov (.t 8), [], none⟩⟩,
   ⟨true, ⟨(some 60), .iaddr none 1 (.t 58) (.t 59), [0, 1, 0, 1], none⟩⟩,
   ⟨false, ⟨none, .store 1 (.t 60) (.c (.int .i64 (.ofNat 1))), [2, 0, 1], none⟩⟩] [] 2017612633061982464)))
 (.region [⟨true, ⟨(some 61), .bin .add (.t 54) (.c (.int .i64 (.ofNat 1))), [], none⟩⟩,
   ⟨false, ⟨(some 54), .mov (.t 61), [0], none⟩⟩] [] 2305843009213693952)))))))
 (.region [⟨true, ⟨(some 62), .faddr 3 (.t 4), [], none⟩⟩,
   ⟨true, ⟨(some 63), .load none (.t 62), [0], none⟩⟩,
   ⟨true, ⟨(some 64), .mov (.t 6), [], none⟩⟩,
   ⟨true, ⟨(some 65), .bslice false .dyn 1 1 [.nilsl] [(0, 1, (.t 64))], [2], none⟩⟩,
   ⟨true, ⟨(some 66), .append .dyn 1 24 (.t 63) (.t 65), [1, 3], none⟩⟩,
   ⟨true, ⟨(some 67), .faddr 3 (.t 4), [0, 1, 2, 3, 4], none⟩⟩,
   ⟨false, ⟨none, .store 1 (.t 67) (.t 66), [5, 4, 4, 0, 1, 2, 3, 4], none⟩⟩] [] 290567744358317031488))))))
 (.region [⟨true, ⟨(some 68), .bin .add (.t 23) (.c (.int .i64 (.ofNat 1))), [], none⟩⟩,
   ⟨false, ⟨(some 23), .mov (.t 68), [0], none⟩⟩] [] 295147905179352825856)))))))
 (.seq (.region [⟨true, ⟨(some 69), .load (some 4) (.t 4), [], none⟩⟩,
   ⟨false, ⟨none, .store 4 (.t 2) (.t 69), [0, 0], none⟩⟩,
   ⟨true, ⟨(some 3), .mov (.c (.int .i64 (.ofNat 0))), [1, 0, 1], none⟩⟩] [] 590295810358718234641)
 .ret)))))⟩
def f32 : FFn := ⟨26, [.tmp 4],
 (.seq (.region [⟨true, ⟨(some 4), .mov (.c (.bool false)), [], none⟩⟩] [] 16)
 (.seq (.seq (.region [⟨true, ⟨(some 6), .mov (.t 0), [], none⟩⟩,
   ⟨true, ⟨(some 7), .len 1 (.t 6), [0], none⟩⟩,
   ⟨true, ⟨(some 8), .mov (.t 1), [], none⟩⟩,
   ⟨true, ⟨(some 9), .len 1 (.t 8), [2], none⟩⟩,
   ⟨true, ⟨(some 10), .bin .neq (.t 7) (.t 9), [1, 3], none⟩⟩] [] 960)
 (.cond (.t 10)
  (.seq (.region [⟨true, ⟨(some 4), .mov (.c (.bool false)), [], none⟩⟩] [] 1027)
  .ret)
  .skip))
 (.seq (.seq (.region [⟨true, ⟨(some 5), .mov (.c (.int .i64 (.ofNat 0))), [], none⟩⟩] [] 1040)
 (.block 0 (.loop (.seq (.seq (.region [⟨true, ⟨(some 11), .mov (.t 5), [], none⟩⟩,
   ⟨true, ⟨(some 12), .mov (.t 0), [], none⟩⟩,
   ⟨true, ⟨(some 13), .len 1 (.t 12), [1], none⟩⟩,
   ⟨true, ⟨(some 14), .bin .lss (.t 11) (.t 13), [0, 2], none⟩⟩] [] 14336)
 (.cond (.t 14)
  .skip
  (.exit 0)))
 (.seq (.block 1 (.seq (.region [⟨true, ⟨(some 17), .mov (.t 0), [], none⟩⟩,
   ⟨true, ⟨(some 18), .mov (.t 5), [], none⟩⟩,
   ⟨true, ⟨(some 19), .iaddr none 1 (.t 17) (.t 18), [0, 1], none⟩⟩,
   ⟨true, ⟨(some 20), .load none (.t 19), [2], none⟩⟩,
   ⟨true, ⟨(some 21), .mov (.t 1), [], none⟩⟩,
   ⟨true, ⟨(some 22), .mov (.t 5), [], none⟩⟩,
   ⟨true, ⟨(some 23), .iaddr none 1 (.t 21) (.t 22), [4, 5], none⟩⟩,
   ⟨true, ⟨(some 24), .load none (.t 23), [6], none⟩⟩,
   ⟨true, ⟨(some 25), .bin .neq (.t 20) (.t 24), [3, 7], none⟩⟩] [] 33439744)
 (.cond (.t 25)
  (.seq (.region [⟨true, ⟨(some 4), .mov (.c (.bool false)), [], none⟩⟩] [] 33554467)
  .ret)
  .skip)))
 (.region [⟨true, ⟨(some 15), .mov (.t 5), [], none⟩⟩,
   ⟨true, ⟨(some 16), .bin .add (.t 15) (.c (.int .i64 (.ofNat 1))), [0], none⟩⟩,
   ⟨false, ⟨(some 5), .mov (.t 16), [1, 0, 1], none⟩⟩] [] 33652752))))))
 (.seq (.region [⟨true, ⟨(some 4), .mov (.c (.bool true)), [], none⟩⟩] [] 35)
 .ret))))⟩
def f33 : FFn := ⟨20, [.tmp 2, .tmp 3],
 (.seq (.region [⟨true, ⟨(some 2), .mov (.c (.int .i64 (.ofNat 0))), [], none⟩⟩,
   ⟨true, ⟨(some 3), .mov (.c (.int .i64 (.ofNat 0))), [0], none⟩⟩] [] 12)
 (.seq (.seq (.region [⟨true, ⟨(some 4), .mov (.t 0), [], none⟩⟩,
   ⟨true, ⟨(some 5), .bin .lss (.t 4) (.c (.int .i64 (.ofNat 1))), [0], none⟩⟩,
   ⟨true, ⟨(some 6), .mov (.t 5), [1], none⟩⟩,
   ⟨true, ⟨(some 7), .mov (.t 0), [2], (some (6, false))⟩⟩,
   ⟨true, ⟨(some 8), .bin .gtr (.t 7) (.c (.int .i64 (.ofNat 5))), [3, 2], (some (6, false))⟩⟩,
   ⟨true, ⟨(some 9), .pick (.t 6) (.c (.bool true)) (.t 8), [2, 4], none⟩⟩] [] 496)
 (.cond (.t 9)
  (.seq (.region [⟨true, ⟨(some 2), .mov (.c (.int .i64 (.ofNat 0))), [], none⟩⟩,
    ⟨true, ⟨(some 3), .mov (.c (.int .i64 (.ofNat 0))), [0, 0], none⟩⟩] [] 513)
  .ret)
  .skip))
 (.seq (.region [⟨true, ⟨(some 10), .bslice false .dyn 1 5 [(.int .i64 (.ofNat 0)), (.int .i64 (.ofNat 0)), (.int .i64 (.ofNat 0)), (.int .i64 (.ofNat 0)), (.int .i64 (.ofNat 0))] [(0, 1, (.c (.int .i64 (.ofNat 1)))), (1, 1, (.c (.int .i64 (.ofNat 2)))), (2, 1, (.c (.int .i64 (.ofNat 2)))), (3, 1, (.c (.int .i64 (.ofNat 2)))), (4, 1, (.c (.int .i64 (.ofNat 2))))], [], none⟩⟩,
   ⟨true, ⟨(some 11), .mov (.t 0), [], none⟩⟩,
   ⟨true, ⟨(some 12), .bin .sub (.t 11) (.c (.int .i64 (.ofNat 1))), [1], none⟩⟩,
   ⟨true, ⟨(some 13), .iaddr none 1 (.t 10) (.t 12), [0, 2], none⟩⟩,
   ⟨true, ⟨(some 14), .load none (.t 13), [3], none⟩⟩,
   ⟨true, ⟨(some 15), .bslice false .dyn 1 5 [(.int .i64 (.ofNat 0)), (.int .i64 (.ofNat 0)), (.int .i64 (.ofNat 0)), (.int .i64 (.ofNat 0)), (.int .i64 (.ofNat 0))] [(0, 1, (.c (.int .i64 (.ofNat 8)))), (1, 1, (.c (.int .i64 (.ofNat 6)))), (2, 1, (.c (.int .i64 (.ofNat 4)))), (3, 1, (.c (.int .i64 (.ofNat 8)))), (4, 1, (.c (.int .i64 (.ofNat 6))))], [], none⟩⟩,
   ⟨true, ⟨(some 16), .mov (.t 0), [], none⟩⟩,
   ⟨true, ⟨(some 17), .bin .sub (.t 16) (.c (.int .i64 (.ofNat 1))), [6], none⟩⟩,
   ⟨true, ⟨(some 18), .iaddr none 1 (.t 15) (.t 17), [5, 7], none⟩⟩,
   ⟨true, ⟨(some 19), .load none (.t 18), [8], none⟩⟩,
   ⟨false, ⟨(some 2), .mov (.t 14), [4, 0, 1, 2, 3, 4], none⟩⟩,
   ⟨false, ⟨(some 3), .mov (.t 19), [9, 10, 0, 1, 2, 3, 4, 5, 6, 7, 8, 9, 10], none⟩⟩] [(0, 9)] 1048065)
 .ret)))⟩
def f34 : FFn := ⟨25, [.tmp 4],
 (.seq (.region [⟨true, ⟨(some 4), .mov (.c (.int .i64 (.ofNat 0))), [], none⟩⟩] [] 16)
 (.seq (.region [⟨true, ⟨(some 9), .mov (.t 0), [], none⟩⟩,
   ⟨true, ⟨(some 10), .call .heap (.f 88) [(.t 9)], [0], none⟩⟩,
   ⟨true, ⟨(some 8), .mov (.t 10), [1], none⟩⟩,
   ⟨true, ⟨(some 11), .extract 0 (.t 8), [2], none⟩⟩,
   ⟨true, ⟨(some 12), .extract 1 (.t 8), [2], none⟩⟩,
   ⟨true, ⟨(some 13), .extract 2 (.t 8), [2], none⟩⟩,
   ⟨true, ⟨(some 5), .mov (.t 11), [3, 1, 0, 1, 2, 3], none⟩⟩,
   ⟨true, ⟨(some 6), .mov (.t 12), [4, 6, 0, 1, 2, 3, 4, 6], none⟩⟩,
   ⟨true, ⟨(some 7), .mov (.t 13), [5, 7, 0, 1, 2, 3, 4, 5, 6, 7], none⟩⟩] [] 16129)
 (.seq (.seq (.region [⟨true, ⟨(some 14), .mov (.t 7), [], none⟩⟩,
   ⟨true, ⟨(some 15), .bin .neq (.t 14) (.c (.int .i64 (.ofNat 0))), [0], none⟩⟩] [] 16384)
 (.cond (.t 15)
  (.seq (.region [⟨true, ⟨(some 16), .mov (.t 7), [], none⟩⟩,
    ⟨true, ⟨(some 4), .mov (.t 16), [0, 0], none⟩⟩] [] 98530)
  .ret)
  .skip))
 (.seq (.seq (.region [⟨true, ⟨(some 17), .mov (.t 1), [], none⟩⟩,
   ⟨true, ⟨(some 18), .mov (.t 5), [], none⟩⟩,
   ⟨true, ⟨(some 19), .bin .lss (.t 17) (.t 18), [0, 1], none⟩⟩,
   ⟨true, ⟨(some 20), .mov (.t 19), [2], none⟩⟩,
   ⟨true, ⟨(some 21), .mov (.t 1), [3], (some (20, false))⟩⟩,
   ⟨true, ⟨(some 22), .mov (.t 6), [3], (some (20, false))⟩⟩,
   ⟨true, ⟨(some 23), .bin .gtr (.t 21) (.t 22), [4, 5, 3], (some (20, false))⟩⟩,
   ⟨true, ⟨(some 24), .pick (.t 20) (.c (.bool true)) (.t 23), [3, 6], none⟩⟩] [] 16679154)
 (.cond (.t 24)
  (.seq (.region [⟨true, ⟨(some 4), .mov (.c (.int .i64 (.ofNat 2))), [], none⟩⟩] [] 16777216)
  .ret)
  .skip))
 (.seq (.region [⟨false, ⟨(some 4), .mov (.c (.int .i64 (.ofNat 0))), [], none⟩⟩] [] 16777216)
 .ret)))))⟩
def f35 : FFn := ⟨22, [.cell 2 (some 5)],
 (.seq (.region [⟨true, ⟨(some 2), .alloc .dyn (.agg [.nilsl, .nilsl, .nilsl, .nilsl, .nilsl]), [], none⟩⟩] [] 0)
 (.seq (.region [⟨true, ⟨(some 5), .mov (.t 0), [], none⟩⟩,
   ⟨true, ⟨(some 6), .bslice false .dyn 1 2 [(.str []), (.str [])] [(0, 1, (.c (.str [115, 116, 97, 114, 116]))), (1, 1, (.c (.str [102, 105, 110, 105, 115, 104])))], [], none⟩⟩,
   ⟨true, ⟨(some 7), .call .heap (.f 89) [(.t 5), (.t 6)], [0, 1], none⟩⟩,
   ⟨true, ⟨(some 8), .build [.nilsl, .nilsl, .nilsl, .nilsl, .nilsl] [(0, 1, (.t 7))], [2], none⟩⟩,
   ⟨true, ⟨(some 3), .alloc .dyn (.agg [.nilsl, .nilsl, .nilsl, .nilsl, .nilsl]), [], none⟩⟩,
   ⟨false, ⟨none, .store 5 (.t 3) (.t 8), [4, 3, 2, 0, 1, 2, 3, 4], none⟩⟩] [] 480)
 (.seq (.seq (.region [⟨true, ⟨(some 9), .mov (.t 0), [], none⟩⟩,
   ⟨true, ⟨(some 10), .mov (.c (.int .i64 (.ofNat 0))), [], none⟩⟩] [] 1)
 (.block 0 (.loop (.seq (.region [⟨true, ⟨(some 11), .bin .lss (.t 10) (.t 9), [], none⟩⟩] [] 0)
 (.seq (.cond (.t 11)
  .skip
  (.exit 0))
 (.seq (.block 1 (.seq (.region [⟨true, ⟨(some 12), .mov (.t 10), [], none⟩⟩,
   ⟨true, ⟨(some 4), .mov (.t 12), [0, 0], none⟩⟩] [] 6144)
 (.region [⟨true, ⟨(some 13), .faddr 1 (.t 3), [], none⟩⟩,
   ⟨true, ⟨(some 14), .load none (.t 13), [0], none⟩⟩,
   ⟨true, ⟨(some 15), .mov (.t 4), [], none⟩⟩,
   ⟨true, ⟨(some 16), .call .pure (.f 90) [(.c (.str [109, 97, 99, 104, 105, 110, 101])), (.t 15)], [2], none⟩⟩,
   ⟨true, ⟨(some 17), .bslice false .dyn 5 1 [(.str []), .nilsl, (.int .i64 (.ofNat 0)), .nilsl, .nilsl] [(0, 5, (.t 16))], [3], none⟩⟩,
   ⟨true, ⟨(some 18), .append .dyn 5 96 (.t 14) (.t 17), [1, 4, 3], none⟩⟩,
   ⟨true, ⟨(some 19), .faddr 1 (.t 3), [0, 1, 2, 3, 4, 5], none⟩⟩,
   ⟨false, ⟨none, .store 1 (.t 19) (.t 18), [6, 5, 5, 0, 1, 2, 3, 4, 5], none⟩⟩] [] 1040400)))
 (.region [⟨true, ⟨(some 20), .bin .add (.t 10) (.c (.int .i64 (.ofNat 1))), [], none⟩⟩,
   ⟨false, ⟨(some 10), .mov (.t 20), [0], none⟩⟩] [] 1048576)))))))
 (.seq (.region [⟨true, ⟨(some 21), .load (some 5) (.t 3), [], none⟩⟩,
   ⟨false, ⟨none, .store 5 (.t 2) (.t 21), [0, 0], none⟩⟩] [] 2098696)
 .ret))))⟩
def f36 : FFn := ⟨63, [.cell 4 (some 5)],
 (.seq (.region [⟨true, ⟨(some 4), .alloc .dyn (.agg [(.str []), .nilsl, (.int .i64 (.ofNat 0)), .nilsl, .nilsl]), [], none⟩⟩] [] 0)
 (.seq (.region [⟨true, ⟨(some 7), .mov (.t 0), [], none⟩⟩,
   ⟨true, ⟨(some 8), .bin .mul (.c (.int .i64 (.ofNat 2))) (.t 7), [0], none⟩⟩,
   ⟨true, ⟨(some 9), .bin .add (.t 8) (.c (.int .i64 (.ofNat 1))), [1], none⟩⟩,
   ⟨true, ⟨(some 10), .mov (.t 0), [], none⟩⟩,
   ⟨true, ⟨(some 11), .bin .mul (.c (.int .i64 (.ofNat 2))) (.t 10), [3], none⟩⟩,
   ⟨true, ⟨(some 12), .bin .add (.t 11) (.c (.int .i64 (.ofNat 2))), [4], none⟩⟩,
   ⟨true, ⟨(some 13), .bslice false .dyn 1 2 [(.int .i64 (.ofNat 0)), (.int .i64 (.ofNat 0))] [(0, 1, (.t 9)), (1, 1, (.t 12))], [2, 5], none⟩⟩,
   ⟨true, ⟨(some 14), .mov (.t 1), [], none⟩⟩,
   ⟨true, ⟨(some 15), .bin .add (.t 14) (.c (.int .i64 (.ofNat 1))), [7], none⟩⟩,
   ⟨true, ⟨(some 16), .build [.nilsl, (.int .i64 (.ofNat 0)), .nilsl, .nilsl] [(0, 1, (.t 13)), (1, 1, (.t 15))], [6, 8], none⟩⟩,
   ⟨true, ⟨(some 5), .alloc .dyn (.agg [.nilsl, (.int .i64 (.ofNat 0)), .nilsl, .nilsl]), [], none⟩⟩,
   ⟨false, ⟨none, .store 4 (.t 5) (.t 16), [10, 9, 0, 1, 2, 3, 4, 5, 6, 7, 8, 9, 10], none⟩⟩] [] 130944)
 (.seq (.seq (.region [⟨true, ⟨(some 17), .faddr 1 (.t 5), [], none⟩⟩,
   ⟨true, ⟨(some 18), .load none (.t 17), [0], none⟩⟩,
   ⟨true, ⟨(some 19), .mov (.c (.int .i64 (.ofNat 0))), [], none⟩⟩] [] 131072)
 (.block 0 (.loop (.seq (.region [⟨true, ⟨(some 20), .bin .lss (.t 19) (.t 18), [], none⟩⟩] [] 0)
 (.seq (.cond (.t 20)
  .skip
  (.exit 0))
 (.seq (.block 1 (.seq (.region [⟨true, ⟨(some 21), .mov (.t 19), [], none⟩⟩,
   ⟨true, ⟨(some 6), .mov (.t 21), [0, 0], none⟩⟩] [] 3145728)
 (.seq (.region [⟨true, ⟨(some 22), .faddr 2 (.t 5), [], none⟩⟩,
   ⟨true, ⟨(some 23), .load none (.t 22), [0], none⟩⟩,
   ⟨true, ⟨(some 24), .mov (.t 6), [], none⟩⟩,
   ⟨true, ⟨(some 25), .bslice false .dyn 1 1 [(.int .i64 (.ofNat 0))] [(0, 1, (.t 24))], [2], none⟩⟩,
   ⟨true, ⟨(some 26), .append .dyn 1 8 (.t 23) (.t 25), [1, 3], none⟩⟩,
   ⟨true, ⟨(some 27), .faddr 2 (.t 5), [0, 1, 2, 3, 4], none⟩⟩,
   ⟨false, ⟨none, .store 1 (.t 27) (.t 26), [5, 4, 4, 0, 1, 2, 3, 4], none⟩⟩] [] 264241152)
 (.seq (.seq (.region [⟨true, ⟨(some 28), .mov (.t 6), [], none⟩⟩,
   ⟨true, ⟨(some 29), .mov (.t 1), [], none⟩⟩,
   ⟨true, ⟨(some 30), .bin .lss (.t 28) (.t 29), [0, 1], none⟩⟩] [] 805306368)
 (.cond (.t 30)
  (.region [⟨true, ⟨(some 31), .faddr 3 (.t 5), [], none⟩⟩,
    ⟨true, ⟨(some 32), .load none (.t 31), [0], none⟩⟩,
    ⟨true, ⟨(some 33), .mov (.t 6), [], none⟩⟩,
    ⟨true, ⟨(some 34), .mov (.t 0), [], none⟩⟩,
    ⟨true, ⟨(some 35), .bin .mul (.c (.int .i64 (.ofNat 2))) (.t 34), [3], none⟩⟩,
    ⟨true, ⟨(some 36), .bin .add (.t 35) (.c (.int .i64 (.ofNat 1))), [4], none⟩⟩,
    ⟨true, ⟨(some 37), .mov (.t 6), [], none⟩⟩,
    ⟨true, ⟨(some 38), .bin .add (.t 37) (.c (.int .i64 (.ofNat 1))), [6], none⟩⟩,
    ⟨true, ⟨(some 39), .build [(.int .i64 (.ofNat 0)), (.int .i64 (.ofNat 0)), (.int .i64 (.ofNat 0))] [(0, 1, (.t 33)), (1, 1, (.t 36)), (2, 1, (.t 38))], [2, 5, 7], none⟩⟩,
    ⟨true, ⟨(some 40), .bslice false .dyn 3 1 [(.int .i64 (.ofNat 0)), (.int .i64 (.ofNat 0)), (.int .i64 (.ofNat 0))] [(0, 3, (.t 39))], [8], none⟩⟩,
    ⟨true, ⟨(some 41), .append .dyn 3 24 (.t 32) (.t 40), [1, 9], none⟩⟩,
    ⟨true, ⟨(some 42), .faddr 3 (.t 5), [0, 1, 2, 3, 4, 5, 6, 7, 8, 9, 10], none⟩⟩,
    ⟨false, ⟨none, .store 1 (.t 42) (.t 41), [11, 10, 10, 0, 1, 2, 3, 4, 5, 6, 7, 8, 9, 10], none⟩⟩] [] 8795019280384)
  .skip))
 (.seq (.region [⟨true, ⟨(some 43), .mov (.t 6), [], none⟩⟩,
   ⟨true, ⟨(some 44), .bin .gtr (.t 43) (.c (.int .i64 (.ofNat 0))), [0], none⟩⟩] [] 8797166764032)
 (.cond (.t 44)
  (.region [⟨true, ⟨(some 45), .faddr 3 (.t 5), [], none⟩⟩,
    ⟨true, ⟨(some 46), .load none (.t 45), [0], none⟩⟩,
    ⟨true, ⟨(some 47), .mov (.t 6), [], none⟩⟩,
    ⟨true, ⟨(some 48), .mov (.t 0), [], none⟩⟩,
    ⟨true, ⟨(some 49), .bin .mul (.c (.int .i64 (.ofNat 2))) (.t 48), [3], none⟩⟩,
    ⟨true, ⟨(some 50), .bin .add (.t 49) (.c (.int .i64 (.ofNat 2))), [4], none⟩⟩,
    ⟨true, ⟨(some 51), .mov (.t 6), [], none⟩⟩,
    ⟨true, ⟨(some 52), .bin .sub (.t 51) (.c (.int .i64 (.ofNat 1))), [6], none⟩⟩,
    ⟨true, ⟨(some 53), .build [(.int .i64 (.ofNat 0)), (.int .i64 (.ofNat 0)), (.int .i64 (.ofNat 0))] [(0, 1, (.t 47)), (1, 1, (.t 50)), (2, 1, (.t 52))], [2, 5, 7], none⟩⟩,
    ⟨true, ⟨(some 54), .bslice false .dyn 3 1 [(.int .i64 (.ofNat 0)), (.int .i64 (.ofNat 0)), (.int .i64 (.ofNat 0))] [(0, 3, (.t 53))], [8], none⟩⟩,
    ⟨true, ⟨(some 55), .append .dyn 3 24 (.t 46) (.t 54), [1, 9], none⟩⟩,
    ⟨true, ⟨(some 56), .faddr 3 (.t 5), [0, 1, 2, 3, 4, 5, 6, 7, 8, 9, 10], none⟩⟩,
    ⟨false, ⟨none, .store 1 (.t 56) (.t 55), [11, 10, 10, 0, 1, 2, 3, 4, 5, 6, 7, 8, 9, 10], none⟩⟩] [] 144097595889811520)
  .skip))))))
 (.region [⟨true, ⟨(some 57), .bin .add (.t 19) (.c (.int .i64 (.ofNat 1))), [], none⟩⟩,
   ⟨false, ⟨(some 19), .mov (.t 57), [0], none⟩⟩] [] 144132780261900352)))))))
 (.seq (.region [⟨true, ⟨(some 58), .mov (.t 0), [], none⟩⟩,
   ⟨true, ⟨(some 59), .call .pure (.f 91) [(.t 58)], [0], none⟩⟩,
   ⟨true, ⟨(some 60), .bin .add (.c (.str [98, 117, 102, 102, 101, 114])) (.t 59), [1], none⟩⟩,
   ⟨true, ⟨(some 61), .load (some 4) (.t 5), [], none⟩⟩,
   ⟨true, ⟨(some 62), .build [(.str []), .nilsl, (.int .i64 (.ofNat 0)), .nilsl, .nilsl] [(0, 1, (.t 60)), (1, 4, (.t 61))], [2, 3], none⟩⟩,
   ⟨false, ⟨none, .store 5 (.t 4) (.t 62), [4, 1, 0, 1, 2, 3, 4], none⟩⟩] [] 8935141660703850531)
 .ret))))⟩
def f37 : FFn := ⟨130, [.cell 2 (some 5)],
 (.seq (.region [⟨true, ⟨(some 2), .alloc .dyn (.agg [.nilsl, .nilsl, .nilsl, .nilsl, .nilsl]), [], none⟩⟩] [] 0)
 (.seq (.region [⟨true, ⟨(some 14), .mov (.t 0), [], none⟩⟩,
   ⟨true, ⟨(some 15), .bslice false .dyn 1 3 [(.str []), (.str []), (.str [])] [(0, 1, (.c (.str [108, 101, 102, 116]))), (1, 1, (.c (.str [114, 105, 103, 104, 116]))), (2, 1, (.c (.str [112, 117, 116])))], [], none⟩⟩,
   ⟨true, ⟨(some 16), .call .heap (.f 89) [(.t 14), (.t 15)], [0, 1], none⟩⟩,
   ⟨true, ⟨(some 17), .build [.nilsl, .nilsl, .nilsl, .nilsl, .nilsl] [(0, 1, (.t 16))], [2], none⟩⟩,
   ⟨true, ⟨(some 3), .alloc .dyn (.agg [.nilsl, .nilsl, .nilsl, .nilsl, .nilsl]), [], none⟩⟩,
   ⟨false, ⟨none, .store 5 (.t 3) (.t 17), [4, 3, 2, 0, 1, 2, 3, 4], none⟩⟩] [] 245760)
 (.seq (.seq (.region [⟨true, ⟨(some 18), .mov (.t 0), [], none⟩⟩,
   ⟨true, ⟨(some 19), .mov (.c (.int .i64 (.ofNat 0))), [], none⟩⟩] [] 0)
 (.block 0 (.loop (.seq (.region [⟨true, ⟨(some 20), .bin .lss (.t 19) (.t 18), [], none⟩⟩] [] 0)
 (.seq (.cond (.t 20)
  .skip
  (.exit 0))
 (.seq (.block 1 (.seq (.region [⟨true, ⟨(some 21), .mov (.t 19), [], none⟩⟩,
   ⟨true, ⟨(some 4), .mov (.t 21), [0, 0], none⟩⟩] [] 3145728)
 (.seq (.region [⟨true, ⟨(some 22), .mov (.t 4), [], none⟩⟩,
   ⟨true, ⟨(some 23), .bin .mul (.c (.int .i64 (.ofNat 3))) (.t 22), [0], none⟩⟩,
   ⟨true, ⟨(some 24), .mov (.t 4), [], none⟩⟩,
   ⟨true, ⟨(some 25), .bin .mul (.c (.int .i64 (.ofNat 3))) (.t 24), [2], none⟩⟩,
   ⟨true, ⟨(some 26), .bin .add (.t 25) (.c (.int .i64 (.ofNat 1))), [3], none⟩⟩,
   ⟨true, ⟨(some 27), .mov (.t 4), [], none⟩⟩,
   ⟨true, ⟨(some 28), .bin .mul (.c (.int .i64 (.ofNat 3))) (.t 27), [5], none⟩⟩,
   ⟨true, ⟨(some 29), .bin .add (.t 28) (.c (.int .i64 (.ofNat 2))), [6], none⟩⟩,
   ⟨true, ⟨(some 30), .bslice false .dyn 1 3 [(.int .i64 (.ofNat 0)), (.int .i64 (.ofNat 0)), (.int .i64 (.ofNat 0))] [(0, 1, (.t 23)), (1, 1, (.t 26)), (2, 1, (.t 29))], [1, 4, 7], none⟩⟩,
   ⟨true, ⟨(some 31), .bslice false .dyn 1 1 [(.int .i64 (.ofNat 0))] [(0, 1, (.c (.int .i64 (.ofNat 0))))], [], none⟩⟩,
   ⟨true, ⟨(some 32), .build [.nilsl, (.int .i64 (.ofNat 0)), .nilsl, .nilsl] [(0, 1, (.t 30)), (1, 1, (.c (.int .i64 (.ofNat 3)))), (2, 1, (.t 31))], [8, 9], none⟩⟩,
   ⟨true, ⟨(some 5), .alloc .dyn (.agg [.nilsl, (.int .i64 (.ofNat 0)), .nilsl, .nilsl]), [], none⟩⟩,
   ⟨false, ⟨none, .store 4 (.t 5) (.t 32), [11, 10, 0, 1, 2, 3, 4, 5, 6, 7, 8, 9, 10, 11], none⟩⟩] [] 8585740288)
 (.seq (.seq (.region [⟨true, ⟨(some 33), .mov (.c (.int .i64 (.ofNat 0))), [], none⟩⟩] [] 0)
 (.block 2 (.loop (.seq (.region [⟨true, ⟨(some 34), .bin .lss (.t 33) (.c (.int .i64 (.ofNat 3))), [], none⟩⟩] [] 0)
 (.seq (.cond (.t 34)
  .skip
  (.exit 2))
 (.seq (.block 3 (.seq (.region [⟨true, ⟨(some 35), .mov (.t 33), [], none⟩⟩,
   ⟨true, ⟨(some 6), .mov (.t 35), [0, 0], none⟩⟩] [] 51539607552)
 (.region [⟨true, ⟨(some 36), .faddr 3 (.t 5), [], none⟩⟩,
   ⟨true, ⟨(some 37), .load none (.t 36), [0], none⟩⟩,
   ⟨true, ⟨(some 38), .mov (.t 6), [], none⟩⟩,
   ⟨true, ⟨(some 39), .mov (.t 4), [], none⟩⟩,
   ⟨true, ⟨(some 40), .bin .mul (.c (.int .i64 (.ofNat 3))) (.t 39), [3], none⟩⟩,
   ⟨true, ⟨(some 41), .mov (.t 6), [], none⟩⟩,
   ⟨true, ⟨(some 42), .bin .add (.t 40) (.t 41), [4, 5], none⟩⟩,
   ⟨true, ⟨(some 43), .mov (.t 6), [], none⟩⟩,
   ⟨true, ⟨(some 44), .bin .add (.t 43) (.c (.int .i64 (.ofNat 1))), [7], none⟩⟩,
   ⟨true, ⟨(some 45), .bin .rem (.t 44) (.c (.int .i64 (.ofNat 3))), [8], none⟩⟩,
   ⟨true, ⟨(some 46), .build [(.int .i64 (.ofNat 0)), (.int .i64 (.ofNat 0)), (.int .i64 (.ofNat 0))] [(0, 1, (.t 38)), (1, 1, (.t 42)), (2, 1, (.t 45))], [2, 6, 9], none⟩⟩,
   ⟨true, ⟨(some 47), .bslice false .dyn 3 1 [(.int .i64 (.ofNat 0)), (.int .i64 (.ofNat 0)), (.int .i64 (.ofNat 0))] [(0, 3, (.t 46))], [10], none⟩⟩,
   ⟨true, ⟨(some 48), .append .dyn 3 24 (.t 37) (.t 47), [1, 11], none⟩⟩,
   ⟨true, ⟨(some 49), .faddr 3 (.t 5), [0, 1, 2, 3, 4, 5, 6, 7, 8, 9, 10, 11, 12], none⟩⟩,
   ⟨false, ⟨none, .store 1 (.t 49) (.t 48), [13, 12, 12, 0, 1, 2, 3, 4, 5, 6, 7, 8, 9, 10, 11, 12], none⟩⟩] [] 1125831187365952)))
 (.region [⟨true, ⟨(some 50), .bin .add (.t 33) (.c (.int .i64 (.ofNat 1))), [], none⟩⟩,
   ⟨false, ⟨(some 33), .mov (.t 50), [0], none⟩⟩] [] 1125899906842624)))))))
 (.region [⟨true, ⟨(some 51), .faddr 1 (.t 3), [], none⟩⟩,
   ⟨true, ⟨(some 52), .load none (.t 51), [0], none⟩⟩,
   ⟨true, ⟨(some 53), .mov (.t 4), [], none⟩⟩,
   ⟨true, ⟨(some 54), .call .pure (.f 91) [(.t 53)], [2], none⟩⟩,
   ⟨true, ⟨(some 55), .bin .add (.c (.str [112, 104, 105, 108, 111, 115, 111, 112, 104, 101, 114])) (.t 54), [3], none⟩⟩,
   ⟨true, ⟨(some 56), .load (some 4) (.t 5), [], none⟩⟩,
   ⟨true, ⟨(some 57), .build [(.str []), .nilsl, (.int .i64 (.ofNat 0)), .nilsl, .nilsl] [(0, 1, (.t 55)), (1, 4, (.t 56))], [4, 5], none⟩⟩,
   ⟨true, ⟨(some 58), .bslice false .dyn 5 1 [(.str []), .nilsl, (.int .i64 (.ofNat 0)), .nilsl, .nilsl] [(0, 5, (.t 57))], [6], none⟩⟩,
   ⟨true, ⟨(some 59), .append .dyn 5 96 (.t 52) (.t 58), [1, 7, 3], none⟩⟩,
   ⟨true, ⟨(some 60), .faddr 1 (.t 3), [0, 1, 2, 3, 4, 5, 6, 7, 8], none⟩⟩,
   ⟨false, ⟨none, .store 1 (.t 60) (.t 59), [9, 8, 8, 0, 1, 2, 3, 4, 5, 6, 7, 8], none⟩⟩] [] 2303591217989943344)))))
 (.region [⟨true, ⟨(some 61), .bin .add (.t 19) (.c (.int .i64 (.ofNat 1))), [], none⟩⟩,
   ⟨false, ⟨(some 19), .mov (.t 61), [0], none⟩⟩] [] 2305843009213693952)))))))
 (.seq (.seq (.region [⟨true, ⟨(some 62), .mov (.t 0), [], none⟩⟩,
   ⟨true, ⟨(some 63), .mov (.c (.int .i64 (.ofNat 0))), [], none⟩⟩] [] 786432)
 (.block 4 (.loop (.seq (.region [⟨true, ⟨(some 64), .bin .lss (.t 63) (.t 62), [], none⟩⟩] [] 0)
 (.seq (.cond (.t 64)
  .skip
  (.exit 4))
 (.seq (.block 5 (.seq (.region [⟨true, ⟨(some 65), .mov (.t 63), [], none⟩⟩,
   ⟨true, ⟨(some 7), .mov (.t 65), [0, 0], none⟩⟩] [] 55340232221128654848)
 (.seq (.region [⟨true, ⟨(some 66), .mov (.t 7), [], none⟩⟩,
   ⟨true, ⟨(some 67), .mov (.t 0), [], none⟩⟩,
   ⟨true, ⟨(some 68), .bin .add (.t 66) (.t 67), [0, 1], none⟩⟩,
   ⟨true, ⟨(some 69), .bin .sub (.t 68) (.c (.int .i64 (.ofNat 1))), [2], none⟩⟩,
   ⟨true, ⟨(some 70), .mov (.t 0), [], none⟩⟩,
   ⟨true, ⟨(some 71), .bin .rem (.t 69) (.t 70), [3, 4], none⟩⟩,
   ⟨true, ⟨(some 8), .mov (.t 71), [5, 0, 1, 2, 3, 4, 5], none⟩⟩] [] 4648579506574807007232)
 (.seq (.region [⟨true, ⟨(some 72), .mov (.t 7), [], none⟩⟩,
   ⟨true, ⟨(some 73), .bin .mul (.c (.int .i64 (.ofNat 3))) (.t 72), [0], none⟩⟩,
   ⟨true, ⟨(some 74), .mov (.t 7), [], none⟩⟩,
   ⟨true, ⟨(some 75), .bin .mul (.c (.int .i64 (.ofNat 3))) (.t 74), [2], none⟩⟩,
   ⟨true, ⟨(some 76), .bin .add (.t 75) (.c (.int .i64 (.ofNat 2))), [3], none⟩⟩,
   ⟨true, ⟨(some 77), .mov (.t 8), [], none⟩⟩,
   ⟨true, ⟨(some 78), .bin .mul (.c (.int .i64 (.ofNat 3))) (.t 77), [5], none⟩⟩,
   ⟨true, ⟨(some 79), .bin .add (.t 78) (.c (.int .i64 (.ofNat 1))), [6], none⟩⟩,
   ⟨true, ⟨(some 80), .mov (.t 8), [], none⟩⟩,
   ⟨true, ⟨(some 81), .bin .mul (.c (.int .i64 (.ofNat 3))) (.t 80), [8], none⟩⟩,
   ⟨true, ⟨(some 82), .bin .add (.t 81) (.c (.int .i64 (.ofNat 2))), [9], none⟩⟩,
   ⟨true, ⟨(some 83), .bslice false .dyn 1 4 [(.int .i64 (.ofNat 0)), (.int .i64 (.ofNat 0)), (.int .i64 (.ofNat 0)), (.int .i64 (.ofNat 0))] [(0, 1, (.t 73)), (1, 1, (.t 76)), (2, 1, (.t 79)), (3, 1, (.t 82))], [1, 4, 7, 10], none⟩⟩,
   ⟨true, ⟨(some 84), .bslice false .dyn 1 1 [(.int .i64 (.ofNat 0))] [(0, 1, (.c (.int .i64 (.ofNat 0))))], [], none⟩⟩,
   ⟨true, ⟨(some 85), .build [.nilsl, (.int .i64 (.ofNat 0)), .nilsl, .nilsl] [(0, 1, (.t 83)), (1, 1, (.c (.int .i64 (.ofNat 2)))), (2, 1, (.t 84))], [11, 12], none⟩⟩,
   ⟨true, ⟨(some 9), .alloc .dyn (.agg [.nilsl, (.int .i64 (.ofNat 0)), .nilsl, .nilsl]), [], none⟩⟩,
   ⟨false, ⟨none, .store 4 (.t 9) (.t 85), [14, 13, 0, 1, 2, 3, 4, 5, 6, 7, 8, 9, 10, 11, 12, 13, 14], none⟩⟩] [] 77366530088853397535981824)
 (.seq (.region [⟨true, ⟨(some 86), .faddr 0 (.t 9), [], none⟩⟩,
   ⟨true, ⟨(some 87), .load none (.t 86), [0], none⟩⟩,
   ⟨true, ⟨(some 88), .call .heap (.f 92) [(.t 87)], [1], none⟩⟩] [] 541598767187353870268366848)
 (.seq (.seq (.region [⟨true, ⟨(some 89), .mov (.c (.int .i64 (.ofNat 0))), [], none⟩⟩] [] 0)
 (.block 6 (.loop (.seq (.region [⟨true, ⟨(some 90), .bin .lss (.t 89) (.c (.int .i64 (.ofNat 2))), [], none⟩⟩] [] 0)
 (.seq (.cond (.t 90)
  .skip
  (.exit 6))
 (.seq (.block 7 (.seq (.region [⟨true, ⟨(some 91), .mov (.t 89), [], none⟩⟩,
   ⟨true, ⟨(some 10), .mov (.t 91), [0, 0], none⟩⟩] [] 3713820117856140824697372672)
 (.seq (.region [⟨true, ⟨(some 92), .faddr 0 (.t 9), [], none⟩⟩,
   ⟨true, ⟨(some 93), .load none (.t 92), [0], none⟩⟩,
   ⟨true, ⟨(some 94), .len 1 (.t 93), [1], none⟩⟩,
   ⟨true, ⟨(some 95), .mov (.c (.int .i64 (.ofNat 0))), [], none⟩⟩] [] 4951760157141521099596496896)
 (.block 8 (.loop (.seq (.region [⟨true, ⟨(some 96), .bin .lss (.t 95) (.t 94), [], none⟩⟩] [] 0)
 (.seq (.cond (.t 96)
  .skip
  (.exit 8))
 (.seq (.block 9 (.seq (.region [⟨true, ⟨(some 97), .iaddr none 1 (.t 93) (.t 95), [], none⟩⟩,
   ⟨true, ⟨(some 98), .load none (.t 97), [0], none⟩⟩,
   ⟨true, ⟨(some 12), .mov (.t 98), [1, 0, 1], none⟩⟩] [] 554597137599850363154807652352)
 (.seq (.region [⟨true, ⟨(some 99), .mov (.t 12), [], none⟩⟩,
   ⟨true, ⟨(some 100), .bin .rem (.t 99) (.c (.int .i64 (.ofNat 3))), [0], none⟩⟩,
   ⟨true, ⟨(some 101), .bin .eql (.t 100) (.c (.int .i64 (.ofNat 2))), [1], none⟩⟩,
   ⟨true, ⟨(some 13), .mov (.t 101), [2, 0, 1, 2], none⟩⟩] [] 4436777100798802905238461218816)
 (.seq (.region [⟨true, ⟨(some 102), .mov (.t 13), [], none⟩⟩,
   ⟨true, ⟨(some 103), .mov (.t 10), [], none⟩⟩,
   ⟨true, ⟨(some 104), .bin .eql (.t 103) (.c (.int .i64 (.ofNat 1))), [1], none⟩⟩,
   ⟨true, ⟨(some 105), .eq (.flat false [.b]) false (.t 102) (.t 104), [0, 2], none⟩⟩] [] 35494216806390423241907689758720)
 (.cond (.t 105)
  (.region [⟨true, ⟨(some 106), .faddr 3 (.t 9), [], none⟩⟩,
    ⟨true, ⟨(some 107), .load none (.t 106), [0], none⟩⟩,
    ⟨true, ⟨(some 108), .mov (.t 10), [], none⟩⟩,
    ⟨true, ⟨(some 109), .mov (.t 12), [], none⟩⟩,
    ⟨true, ⟨(some 110), .mov (.t 10), [], none⟩⟩,
    ⟨true, ⟨(some 111), .bin .sub (.c (.int .i64 (.ofNat 1))) (.t 110), [4], none⟩⟩,
    ⟨true, ⟨(some 112), .build [(.int .i64 (.ofNat 0)), (.int .i64 (.ofNat 0)), (.int .i64 (.ofNat 0))] [(0, 1, (.t 108)), (1, 1, (.t 109)), (2, 1, (.t 111))], [2, 3, 5], none⟩⟩,
    ⟨true, ⟨(some 113), .bslice false .dyn 3 1 [(.int .i64 (.ofNat 0)), (.int .i64 (.ofNat 0)), (.int .i64 (.ofNat 0))] [(0, 3, (.t 112))], [6], none⟩⟩,
    ⟨true, ⟨(some 114), .append .dyn 3 24 (.t 107) (.t 113), [1, 7], none⟩⟩,
    ⟨true, ⟨(some 115), .faddr 3 (.t 9), [0, 1, 2, 3, 4, 5, 6, 7, 8], none⟩⟩,
    ⟨false, ⟨none, .store 1 (.t 115) (.t 114), [9, 8, 8, 0, 1, 2, 3, 4, 5, 6, 7, 8], none⟩⟩] [] 83036184917349938715640046764953600)
  .skip)))))
 (.region [⟨true, ⟨(some 116), .bin .add (.t 95) (.c (.int .i64 (.ofNat 1))), [], none⟩⟩,
   ⟨false, ⟨(some 95), .mov (.t 116), [0], none⟩⟩] [] 83117314555764545397335835770097664)))))))))
 (.region [⟨true, ⟨(some 117), .bin .add (.t 89) (.c (.int .i64 (.ofNat 1))), [], none⟩⟩,
   ⟨false, ⟨(some 89), .mov (.t 117), [0], none⟩⟩] [] 166153568797756684094271276886000640)))))))
 (.region [⟨true, ⟨(some 118), .faddr 1 (.t 3), [], none⟩⟩,
   ⟨true, ⟨(some 119), .load none (.t 118), [0], none⟩⟩,
   ⟨true, ⟨(some 120), .mov (.t 7), [], none⟩⟩,
   ⟨true, ⟨(some 121), .call .pure (.f 91) [(.t 120)], [2], none⟩⟩,
   ⟨true, ⟨(some 122), .bin .add (.c (.str [102, 111, 114, 107])) (.t 121), [3], none⟩⟩,
   ⟨true, ⟨(some 123), .load (some 4) (.t 9), [], none⟩⟩,
   ⟨true, ⟨(some 124), .build [(.str []), .nilsl, (.int .i64 (.ofNat 0)), .nilsl, .nilsl] [(0, 1, (.t 122)), (1, 4, (.t 123))], [4, 5], none⟩⟩,
   ⟨true, ⟨(some 125), .bslice false .dyn 5 1 [(.str []), .nilsl, (.int .i64 (.ofNat 0)), .nilsl, .nilsl] [(0, 5, (.t 124))], [6], none⟩⟩,
   ⟨true, ⟨(some 126), .append .dyn 5 96 (.t 119) (.t 125), [1, 7, 3], none⟩⟩,
   ⟨true, ⟨(some 127), .faddr 1 (.t 3), [0, 1, 2, 3, 4, 5, 6, 7, 8], none⟩⟩,
   ⟨false, ⟨none, .store 1 (.t 127) (.t 126), [9, 8, 8, 0, 1, 2, 3, 4, 5, 6, 7, 8], none⟩⟩] [] 339950059922611204514791345804147688064)))))))
 (.region [⟨true, ⟨(some 128), .bin .add (.t 63) (.c (.int .i64 (.ofNat 1))), [], none⟩⟩,
   ⟨false, ⟨(some 63), .mov (.t 128), [0], none⟩⟩] [] 340282366920938463463374607431768211456)))))))
 (.seq (.region [⟨true, ⟨(some 129), .load (some 5) (.t 3), [], none⟩⟩,
   ⟨false, ⟨none, .store 5 (.t 2) (.t 129), [0, 0], none⟩⟩] [] 680564733841876926940584272918818586633)
 .ret)))))⟩
def f38 : FFn := ⟨34, [.cell 2 (some 5)],
 (.seq (.region [⟨true, ⟨(some 2), .alloc .dyn (.agg [.nilsl, .nilsl, .nilsl, .nilsl, .nilsl]), [], none⟩⟩] [] 0)
 (.seq (.region [⟨true, ⟨(some 6), .mov (.t 0), [], none⟩⟩,
   ⟨true, ⟨(some 7), .bslice false .dyn 1 2 [(.str []), (.str [])] [(0, 1, (.c (.str [101, 110, 116, 101, 114]))), (1, 1, (.c (.str [108, 101, 97, 118, 101])))], [], none⟩⟩,
   ⟨true, ⟨(some 8), .call .heap (.f 89) [(.t 6), (.t 7)], [0, 1], none⟩⟩,
   ⟨true, ⟨(some 9), .build [.nilsl, .nilsl, .nilsl, .nilsl, .nilsl] [(0, 1, (.t 8))], [2], none⟩⟩,
   ⟨true, ⟨(some 3), .alloc .dyn (.agg [.nilsl, .nilsl, .nilsl, .nilsl, .nilsl]), [], none⟩⟩,
   ⟨false, ⟨none, .store 5 (.t 3) (.t 9), [4, 3, 2, 0, 1, 2, 3, 4], none⟩⟩] [] 960)
 (.seq (.region [⟨true, ⟨(some 10), .build [(.str []), .nilsl, (.int .i64 (.ofNat 0))] [(0, 1, (.c (.str [122, 111, 110, 101]))), (2, 1, (.c (.int .i64 (.ofNat 1))))], [], none⟩⟩,
   ⟨true, ⟨(some 4), .alloc .dyn (.agg [(.str []), .nilsl, (.int .i64 (.ofNat 0))]), [], none⟩⟩,
   ⟨false, ⟨none, .store 3 (.t 4) (.t 10), [1, 0, 0, 1], none⟩⟩] [] 1024)
 (.seq (.seq (.region [⟨true, ⟨(some 11), .mov (.t 0), [], none⟩⟩,
   ⟨true, ⟨(some 12), .mov (.c (.int .i64 (.ofNat 0))), [], none⟩⟩] [] 1)
 (.block 0 (.loop (.seq (.region [⟨true, ⟨(some 13), .bin .lss (.t 12) (.t 11), [], none⟩⟩] [] 0)
 (.seq (.cond (.t 13)
  .skip
  (.exit 0))
 (.seq (.block 1 (.seq (.region [⟨true, ⟨(some 14), .mov (.t 12), [], none⟩⟩,
   ⟨true, ⟨(some 5), .mov (.t 14), [0, 0], none⟩⟩] [] 24576)
 (.seq (.region [⟨true, ⟨(some 15), .faddr 1 (.t 3), [], none⟩⟩,
   ⟨true, ⟨(some 16), .load none (.t 15), [0], none⟩⟩,
   ⟨true, ⟨(some 17), .mov (.t 5), [], none⟩⟩,
   ⟨true, ⟨(some 18), .call .pure (.f 90) [(.c (.str [118, 101, 104, 105, 99, 108, 101])), (.t 17)], [2], none⟩⟩,
   ⟨true, ⟨(some 19), .bslice false .dyn 5 1 [(.str []), .nilsl, (.int .i64 (.ofNat 0)), .nilsl, .nilsl] [(0, 5, (.t 18))], [3], none⟩⟩,
   ⟨true, ⟨(some 20), .append .dyn 5 96 (.t 16) (.t 19), [1, 4, 3], none⟩⟩,
   ⟨true, ⟨(some 21), .faddr 1 (.t 3), [0, 1, 2, 3, 4, 5], none⟩⟩,
   ⟨false, ⟨none, .store 1 (.t 21) (.t 20), [6, 5, 5, 0, 1, 2, 3, 4, 5], none⟩⟩] [] 4161536)
 (.region [⟨true, ⟨(some 22), .faddr 1 (.t 4), [], none⟩⟩,
   ⟨true, ⟨(some 23), .load none (.t 22), [0], none⟩⟩,
   ⟨true, ⟨(some 24), .mov (.t 5), [], none⟩⟩,
   ⟨true, ⟨(some 25), .build [(.int .i64 (.ofNat 0)), (.int .i64 (.ofNat 0))] [(0, 1, (.t 24)), (1, 1, (.c (.int .i64 (.ofNat 1))))], [2], none⟩⟩,
   ⟨true, ⟨(some 26), .bslice false .dyn 2 1 [(.int .i64 (.ofNat 0)), (.int .i64 (.ofNat 0))] [(0, 2, (.t 25))], [3], none⟩⟩,
   ⟨true, ⟨(some 27), .append .dyn 2 16 (.t 23) (.t 26), [1, 4], none⟩⟩,
   ⟨true, ⟨(some 28), .faddr 1 (.t 4), [0, 1, 2, 3, 4, 5], none⟩⟩,
   ⟨false, ⟨none, .store 1 (.t 28) (.t 27), [6, 5, 5, 0, 1, 2, 3, 4, 5], none⟩⟩] [] 532676640))))
 (.region [⟨true, ⟨(some 29), .bin .add (.t 12) (.c (.int .i64 (.ofNat 1))), [], none⟩⟩,
   ⟨false, ⟨(some 12), .mov (.t 29), [0], none⟩⟩] [] 536870912)))))))
 (.seq (.region [⟨true, ⟨(some 30), .load (some 3) (.t 4), [], none⟩⟩,
   ⟨true, ⟨(some 31), .bslice false .dyn 3 1 [(.str []), .nilsl, (.int .i64 (.ofNat 0))] [(0, 3, (.t 30))], [0], none⟩⟩,
   ⟨true, ⟨(some 32), .faddr 4 (.t 3), [0, 1], none⟩⟩,
   ⟨false, ⟨none, .store 1 (.t 32) (.t 31), [2, 1, 0, 1], none⟩⟩] [] 7516198928)
 (.seq (.region [⟨true, ⟨(some 33), .load (some 5) (.t 3), [], none⟩⟩,
   ⟨false, ⟨none, .store 5 (.t 2) (.t 33), [0, 0], none⟩⟩] [] 8589934600)
 .ret))))))⟩
def f39 : FFn := ⟨41, [.cell 2 (some 5)],
 (.seq (.region [⟨true, ⟨(some 2), .alloc .dyn (.agg [.nilsl, .nilsl, .nilsl, .nilsl, .nilsl]), [], none⟩⟩] [] 0)
 (.seq (.region [⟨true, ⟨(some 6), .mov (.t 0), [], none⟩⟩,
   ⟨true, ⟨(some 7), .call .heap (.f 35) [(.t 6)], [0], none⟩⟩,
   ⟨true, ⟨(some 3), .alloc .dyn (.agg [.nilsl, .nilsl, .nilsl, .nilsl, .nilsl]), [], none⟩⟩,
   ⟨false, ⟨none, .store 5 (.t 3) (.t 7), [2, 1, 1, 0, 1, 2], none⟩⟩] [] 192)
 (.seq (.region [⟨true, ⟨(some 8), .mov (.t 0), [], none⟩⟩,
   ⟨true, ⟨(some 9), .bslice false .dyn 1 1 [(.int .i64 (.ofNat 0))] [(0, 1, (.c (.int .i64 (.ofNat 0))))], [], none⟩⟩,
   ⟨true, ⟨(some 10), .build [.nilsl, (.int .i64 (.ofNat 0)), .nilsl, .nilsl] [(1, 1, (.t 8)), (2, 1, (.t 9))], [0, 1], none⟩⟩,
   ⟨true, ⟨(some 4), .alloc .dyn (.agg [.nilsl, (.int .i64 (.ofNat 0)), .nilsl, .nilsl]), [], none⟩⟩,
   ⟨false, ⟨none, .store 4 (.t 4) (.t 10), [3, 2, 0, 1, 2, 3], none⟩⟩] [] 1792)
 (.seq (.seq (.region [⟨true, ⟨(some 11), .mov (.t 0), [], none⟩⟩,
   ⟨true, ⟨(some 12), .mov (.c (.int .i64 (.ofNat 0))), [], none⟩⟩] [] 0)
 (.block 0 (.loop (.seq (.region [⟨true, ⟨(some 13), .bin .lss (.t 12) (.t 11), [], none⟩⟩] [] 0)
 (.seq (.cond (.t 13)
  .skip
  (.exit 0))
 (.seq (.block 1 (.seq (.region [⟨true, ⟨(some 14), .mov (.t 12), [], none⟩⟩,
   ⟨true, ⟨(some 5), .mov (.t 14), [0, 0], none⟩⟩] [] 24576)
 (.seq (.region [⟨true, ⟨(some 15), .faddr 0 (.t 4), [], none⟩⟩,
   ⟨true, ⟨(some 16), .load none (.t 15), [0], none⟩⟩,
   ⟨true, ⟨(some 17), .mov (.t 5), [], none⟩⟩,
   ⟨true, ⟨(some 18), .bin .mul (.c (.int .i64 (.ofNat 2))) (.t 17), [2], none⟩⟩,
   ⟨true, ⟨(some 19), .bslice false .dyn 1 1 [(.int .i64 (.ofNat 0))] [(0, 1, (.t 18))], [3], none⟩⟩,
   ⟨true, ⟨(some 20), .append .dyn 1 8 (.t 16) (.t 19), [1, 4], none⟩⟩,
   ⟨true, ⟨(some 21), .faddr 0 (.t 4), [0, 1, 2, 3, 4, 5], none⟩⟩,
   ⟨false, ⟨none, .store 1 (.t 21) (.t 20), [6, 5, 5, 0, 1, 2, 3, 4, 5], none⟩⟩] [] 4161536)
 (.region [⟨true, ⟨(some 22), .faddr 3 (.t 4), [], none⟩⟩,
   ⟨true, ⟨(some 23), .load none (.t 22), [0], none⟩⟩,
   ⟨true, ⟨(some 24), .mov (.t 5), [], none⟩⟩,
   ⟨true, ⟨(some 25), .mov (.t 5), [], none⟩⟩,
   ⟨true, ⟨(some 26), .bin .mul (.c (.int .i64 (.ofNat 2))) (.t 25), [3], none⟩⟩,
   ⟨true, ⟨(some 27), .mov (.t 5), [], none⟩⟩,
   ⟨true, ⟨(some 28), .bin .add (.t 27) (.c (.int .i64 (.ofNat 1))), [5], none⟩⟩,
   ⟨true, ⟨(some 29), .mov (.t 0), [], none⟩⟩,
   ⟨true, ⟨(some 30), .bin .rem (.t 28) (.t 29), [6, 7], none⟩⟩,
   ⟨true, ⟨(some 31), .build [(.int .i64 (.ofNat 0)), (.int .i64 (.ofNat 0)), (.int .i64 (.ofNat 0))] [(0, 1, (.t 24)), (1, 1, (.t 26)), (2, 1, (.t 30))], [2, 4, 8], none⟩⟩,
   ⟨true, ⟨(some 32), .bslice false .dyn 3 1 [(.int .i64 (.ofNat 0)), (.int .i64 (.ofNat 0)), (.int .i64 (.ofNat 0))] [(0, 3, (.t 31))], [9], none⟩⟩,
   ⟨true, ⟨(some 33), .append .dyn 3 24 (.t 23) (.t 32), [1, 10], none⟩⟩,
   ⟨true, ⟨(some 34), .faddr 3 (.t 4), [0, 1, 2, 3, 4, 5, 6, 7, 8, 9, 10, 11], none⟩⟩,
   ⟨false, ⟨none, .store 1 (.t 34) (.t 33), [12, 11, 11, 0, 1, 2, 3, 4, 5, 6, 7, 8, 9, 10, 11], none⟩⟩] [] 34355544096))))
 (.region [⟨true, ⟨(some 35), .bin .add (.t 12) (.c (.int .i64 (.ofNat 1))), [], none⟩⟩,
   ⟨false, ⟨(some 12), .mov (.t 35), [0], none⟩⟩] [] 34359738368)))))))
 (.seq (.region [⟨true, ⟨(some 36), .load (some 4) (.t 4), [], none⟩⟩,
   ⟨true, ⟨(some 37), .build [(.str []), .nilsl, (.int .i64 (.ofNat 0)), .nilsl, .nilsl] [(0, 1, (.c (.str [116, 117, 114, 110, 115]))), (1, 4, (.t 36))], [0], none⟩⟩,
   ⟨true, ⟨(some 38), .bslice false .dyn 5 1 [(.str []), .nilsl, (.int .i64 (.ofNat 0)), .nilsl, .nilsl] [(0, 5, (.t 37))], [1], none⟩⟩,
   ⟨true, ⟨(some 39), .faddr 2 (.t 3), [0, 1, 2], none⟩⟩,
   ⟨false, ⟨none, .store 1 (.t 39) (.t 38), [3, 2, 0, 1, 2], none⟩⟩] [] 1030792157201)
 (.seq (.region [⟨true, ⟨(some 40), .load (some 5) (.t 3), [], none⟩⟩,
   ⟨false, ⟨none, .store 5 (.t 2) (.t 40), [0, 0], none⟩⟩] [] 1099511627784)
 .ret))))))⟩
def f40 : FFn := ⟨17, [.tmp 4],
 (.seq (.region [⟨true, ⟨(some 2), .box .dyn (.t 0), [], none⟩⟩,
   ⟨true, ⟨(some 3), .box .dyn (.t 1), [], none⟩⟩,
   ⟨true, ⟨(some 4), .mov (.c (.bool false)), [], none⟩⟩] [] 19)
 (.seq (.region [⟨true, ⟨(some 5), .faddr 0 (.t 2), [], none⟩⟩,
   ⟨true, ⟨(some 6), .load none (.t 5), [0], none⟩⟩,
   ⟨true, ⟨(some 7), .faddr 0 (.t 3), [], none⟩⟩,
   ⟨true, ⟨(some 8), .load none (.t 7), [2], none⟩⟩,
   ⟨true, ⟨(some 9), .bin .eql (.t 6) (.t 8), [1, 3], none⟩⟩,
   ⟨true, ⟨(some 10), .mov (.t 9), [4], none⟩⟩,
   ⟨true, ⟨(some 11), .faddr 1 (.t 2), [5], (some (10, true))⟩⟩,
   ⟨true, ⟨(some 12), .load (some 4) (.t 11), [6, 5], (some (10, true))⟩⟩,
   ⟨true, ⟨(some 13), .faddr 1 (.t 3), [5], (some (10, true))⟩⟩,
   ⟨true, ⟨(some 14), .load (some 4) (.t 13), [8, 5], (some (10, true))⟩⟩,
   ⟨true, ⟨(some 15), .call .heap (.f 41) [(.t 12), (.t 14)], [7, 9, 5, 5], (some (10, true))⟩⟩,
   ⟨true, ⟨(some 16), .pick (.t 10) (.t 15) (.c (.bool false)), [5, 10], none⟩⟩,
   ⟨true, ⟨(some 4), .mov (.t 16), [11, 10, 0, 1, 2, 3, 4, 5, 6, 7, 8, 9, 10, 11], none⟩⟩] [] 131052)
 .ret))⟩
def f41 : FFn := ⟨31, [.tmp 4],
 (.seq (.region [⟨true, ⟨(some 2), .box .dyn (.t 0), [], none⟩⟩,
   ⟨true, ⟨(some 3), .box .dyn (.t 1), [], none⟩⟩,
   ⟨true, ⟨(some 4), .mov (.c (.bool false)), [], none⟩⟩] [] 19)
 (.seq (.region [⟨true, ⟨(some 5), .faddr 1 (.t 2), [], none⟩⟩,
   ⟨true, ⟨(some 6), .load none (.t 5), [0], none⟩⟩,
   ⟨true, ⟨(some 7), .faddr 1 (.t 3), [], none⟩⟩,
   ⟨true, ⟨(some 8), .load none (.t 7), [2], none⟩⟩,
   ⟨true, ⟨(some 9), .bin .eql (.t 6) (.t 8), [1, 3], none⟩⟩,
   ⟨true, ⟨(some 10), .mov (.t 9), [4], none⟩⟩,
   ⟨true, ⟨(some 11), .faddr 0 (.t 2), [5], (some (10, true))⟩⟩,
   ⟨true, ⟨(some 12), .load none (.t 11), [6, 5], (some (10, true))⟩⟩,
   ⟨true, ⟨(some 13), .faddr 0 (.t 3), [5], (some (10, true))⟩⟩,
   ⟨true, ⟨(some 14), .load none (.t 13), [8, 5], (some (10, true))⟩⟩,
   ⟨true, ⟨(some 15), .call .heap (.f 71) [(.t 12), (.t 14)], [7, 9, 5, 5], (some (10, true))⟩⟩,
   ⟨true, ⟨(some 16), .pick (.t 10) (.t 15) (.c (.bool false)), [5, 10], none⟩⟩,
   ⟨true, ⟨(some 17), .mov (.t 16), [11, 10], none⟩⟩,
   ⟨true, ⟨(some 18), .faddr 2 (.t 2), [12], (some (17, true))⟩⟩,
   ⟨true, ⟨(some 19), .load none (.t 18), [13, 12], (some (17, true))⟩⟩,
   ⟨true, ⟨(some 20), .faddr 2 (.t 3), [12], (some (17, true))⟩⟩,
   ⟨true, ⟨(some 21), .load none (.t 20), [15, 12], (some (17, true))⟩⟩,
   ⟨true, ⟨(some 22), .call .heap (.f 71) [(.t 19), (.t 21)], [14, 16, 12, 12], (some (17, true))⟩⟩,
   ⟨true, ⟨(some 23), .pick (.t 17) (.t 22) (.c (.bool false)), [12, 17], none⟩⟩,
   ⟨true, ⟨(some 24), .mov (.t 23), [18, 17], none⟩⟩,
   ⟨true, ⟨(some 25), .faddr 3 (.t 2), [19], (some (24, true))⟩⟩,
   ⟨true, ⟨(some 26), .load none (.t 25), [20, 19], (some (24, true))⟩⟩,
   ⟨true, ⟨(some 27), .faddr 3 (.t 3), [19], (some (24, true))⟩⟩,
   ⟨true, ⟨(some 28), .load none (.t 27), [22, 19], (some (24, true))⟩⟩,
   ⟨true, ⟨(some 29), .call .heap (.f 93) [(.t 26), (.t 28)], [21, 23, 19, 19], (some (24, true))⟩⟩,
   ⟨true, ⟨(some 30), .pick (.t 24) (.t 29) (.c (.bool false)), [19, 24], none⟩⟩,
   ⟨true, ⟨(some 4), .mov (.t 30), [25, 24, 0, 1, 2, 3, 4, 5, 6, 7, 8, 9, 10, 11, 12, 13, 14, 15, 16, 17, 18, 19, 20, 21, 22, 23, 24, 25], none⟩⟩] [] 2147483628)
 .ret))⟩
def f42 : FFn := ⟨26, [.tmp 4],
 (.seq (.region [⟨true, ⟨(some 4), .mov (.c (.bool false)), [], none⟩⟩] [] 16)
 (.seq (.seq (.region [⟨true, ⟨(some 6), .mov (.t 0), [], none⟩⟩,
   ⟨true, ⟨(some 7), .len 1 (.t 6), [0], none⟩⟩,
   ⟨true, ⟨(some 8), .mov (.t 1), [], none⟩⟩,
   ⟨true, ⟨(some 9), .len 1 (.t 8), [2], none⟩⟩,
   ⟨true, ⟨(some 10), .bin .neq (.t 7) (.t 9), [1, 3], none⟩⟩] [] 960)
 (.cond (.t 10)
  (.seq (.region [⟨true, ⟨(some 4), .mov (.c (.bool false)), [], none⟩⟩] [] 1027)
  .ret)
  .skip))
 (.seq (.seq (.region [⟨true, ⟨(some 11), .mov (.t 0), [], none⟩⟩,
   ⟨true, ⟨(some 12), .len 1 (.t 11), [0], none⟩⟩,
   ⟨true, ⟨(some 13), .mov (.c (.int .i64 (.ofNat 0))), [], none⟩⟩] [] 3088)
 (.block 0 (.loop (.seq (.region [⟨true, ⟨(some 14), .bin .lss (.t 13) (.t 12), [], none⟩⟩] [] 0)
 (.seq (.cond (.t 14)
  .skip
  (.exit 0))
 (.seq (.block 1 (.seq (.region [⟨true, ⟨(some 15), .mov (.t 13), [], none⟩⟩,
   ⟨true, ⟨(some 5), .mov (.t 15), [0, 0], none⟩⟩] [] 49152)
 (.seq (.region [⟨true, ⟨(some 16), .mov (.t 0), [], none⟩⟩,
   ⟨true, ⟨(some 17), .mov (.t 5), [], none⟩⟩,
   ⟨true, ⟨(some 18), .iaddr none 5 (.t 16) (.t 17), [0, 1], none⟩⟩,
   ⟨true, ⟨(some 19), .load (some 5) (.t 18), [2], none⟩⟩,
   ⟨true, ⟨(some 20), .mov (.t 1), [], none⟩⟩,
   ⟨true, ⟨(some 21), .mov (.t 5), [], none⟩⟩,
   ⟨true, ⟨(some 22), .iaddr none 5 (.t 20) (.t 21), [4, 5], none⟩⟩,
   ⟨true, ⟨(some 23), .load (some 5) (.t 22), [6], none⟩⟩,
   ⟨true, ⟨(some 24), .eq (.flat true [.s, .b, .b, .b, .i]) true (.t 19) (.t 23), [3, 7], none⟩⟩] [] 16711712)
 (.cond (.t 24)
  (.seq (.region [⟨true, ⟨(some 4), .mov (.c (.bool false)), [], none⟩⟩] [] 16789507)
  .ret)
  .skip))))
 (.region [⟨true, ⟨(some 25), .bin .add (.t 13) (.c (.int .i64 (.ofNat 1))), [], none⟩⟩,
   ⟨false, ⟨(some 13), .mov (.t 25), [0], none⟩⟩] [] 50331664)))))))
 (.seq (.region [⟨true, ⟨(some 4), .mov (.c (.bool true)), [], none⟩⟩] [] 12291)
 .ret))))⟩
def f43 : FFn := ⟨32, [.tmp 6],
 (.seq (.region [⟨true, ⟨(some 6), .mov (.c (.bool false)), [], none⟩⟩] [] 64)
 (.seq (.seq (.region [⟨true, ⟨(some 10), .mov (.t 0), [], none⟩⟩,
   ⟨true, ⟨(some 11), .len 1 (.t 10), [0], none⟩⟩,
   ⟨true, ⟨(some 12), .mov (.t 1), [], none⟩⟩,
   ⟨true, ⟨(some 13), .len 1 (.t 12), [2], none⟩⟩,
   ⟨true, ⟨(some 14), .bin .neq (.t 11) (.t 13), [1, 3], none⟩⟩] [] 15360)
 (.cond (.t 14)
  (.seq (.region [⟨true, ⟨(some 6), .mov (.c (.bool false)), [], none⟩⟩] [] 16391)
  .ret)
  .skip))
 (.seq (.seq (.region [⟨true, ⟨(some 15), .mov (.t 0), [], none⟩⟩,
   ⟨true, ⟨(some 16), .len 1 (.t 15), [0], none⟩⟩,
   ⟨true, ⟨(some 17), .mov (.c (.int .i64 (.ofNat 0))), [], none⟩⟩] [] 16449)
 (.block 0 (.loop (.seq (.region [⟨true, ⟨(some 18), .bin .lss (.t 17) (.t 16), [], none⟩⟩] [] 0)
 (.seq (.cond (.t 18)
  .skip
  (.exit 0))
 (.seq (.block 1 (.seq (.region [⟨true, ⟨(some 19), .mov (.t 17), [], none⟩⟩,
   ⟨true, ⟨(some 20), .iaddr none 5 (.t 15) (.t 17), [], none⟩⟩,
   ⟨true, ⟨(some 21), .load (some 5) (.t 20), [1], none⟩⟩,
   ⟨true, ⟨(some 8), .alloc .dyn (.agg [(.str []), .nilsl, (.int .i64 (.ofNat 0)), .nilsl, .nilsl]), [], none⟩⟩,
   ⟨true, ⟨(some 7), .mov (.t 19), [0, 0, 1, 2, 3], none⟩⟩,
   ⟨false, ⟨none, .store 5 (.t 8) (.t 21), [3, 2, 4, 0, 1, 2, 3, 4], none⟩⟩] [] 3932160)
 (.seq (.region [⟨true, ⟨(some 22), .mov (.t 1), [], none⟩⟩,
   ⟨true, ⟨(some 23), .mov (.t 7), [], none⟩⟩,
   ⟨true, ⟨(some 24), .iaddr none 5 (.t 22) (.t 23), [0, 1], none⟩⟩,
   ⟨true, ⟨(some 25), .load (some 5) (.t 24), [2], none⟩⟩,
   ⟨true, ⟨(some 9), .alloc .dyn (.agg [(.str []), .nilsl, (.int .i64 (.ofNat 0)), .nilsl, .nilsl]), [], none⟩⟩,
   ⟨false, ⟨none, .store 5 (.t 9) (.t 25), [4, 3, 0, 1, 2, 3, 4], none⟩⟩] [] 62914688)
 (.seq (.region [⟨true, ⟨(some 26), .mov (.t 2), [], none⟩⟩,
   ⟨true, ⟨(some 27), .load (some 5) (.t 8), [], none⟩⟩,
   ⟨true, ⟨(some 28), .load (some 5) (.t 9), [], none⟩⟩,
   ⟨true, ⟨(some 29), .call .heap (.t 26) [(.t 27), (.t 28)], [0, 1, 2], none⟩⟩,
   ⟨true, ⟨(some 30), .un .not (.t 29), [3], none⟩⟩] [] 1006633728)
 (.cond (.t 30)
  (.seq (.region [⟨true, ⟨(some 6), .mov (.c (.bool false)), [], none⟩⟩] [] 1073971206)
  .ret)
  .skip)))))
 (.region [⟨true, ⟨(some 31), .bin .add (.t 17) (.c (.int .i64 (.ofNat 1))), [], none⟩⟩,
   ⟨false, ⟨(some 17), .mov (.t 31), [0], none⟩⟩] [] 3221225536)))))))
 (.seq (.region [⟨true, ⟨(some 6), .mov (.c (.bool true)), [], none⟩⟩] [] 229382)
 .ret))))⟩
def f44 : FFn := ⟨32, [.tmp 6],
 (.seq (.region [⟨true, ⟨(some 6), .mov (.c (.bool false)), [], none⟩⟩] [] 64)
 (.seq (.seq (.region [⟨true, ⟨(some 10), .mov (.t 0), [], none⟩⟩,
   ⟨true, ⟨(some 11), .len 1 (.t 10), [0], none⟩⟩,
   ⟨true, ⟨(some 12), .mov (.t 1), [], none⟩⟩,
   ⟨true, ⟨(some 13), .len 1 (.t 12), [2], none⟩⟩,
   ⟨true, ⟨(some 14), .bin .neq (.t 11) (.t 13), [1, 3], none⟩⟩] [] 15360)
 (.cond (.t 14)
  (.seq (.region [⟨true, ⟨(some 6), .mov (.c (.bool false)), [], none⟩⟩] [] 16391)
  .ret)
  .skip))
 (.seq (.seq (.region [⟨true, ⟨(some 15), .mov (.t 0), [], none⟩⟩,
   ⟨true, ⟨(some 16), .len 1 (.t 15), [0], none⟩⟩,
   ⟨true, ⟨(some 17), .mov (.c (.int .i64 (.ofNat 0))), [], none⟩⟩] [] 16449)
 (.block 0 (.loop (.seq (.region [⟨true, ⟨(some 18), .bin .lss (.t 17) (.t 16), [], none⟩⟩] [] 0)
 (.seq (.cond (.t 18)
  .skip
  (.exit 0))
 (.seq (.block 1 (.seq (.region [⟨true, ⟨(some 19), .mov (.t 17), [], none⟩⟩,
   ⟨true, ⟨(some 20), .iaddr none 2 (.t 15) (.t 17), [], none⟩⟩,
   ⟨true, ⟨(some 21), .load (some 2) (.t 20), [1], none⟩⟩,
   ⟨true, ⟨(some 8), .alloc .dyn (.agg [(.str []), .nilsl]), [], none⟩⟩,
   ⟨true, ⟨(some 7), .mov (.t 19), [0, 0, 1, 2, 3], none⟩⟩,
   ⟨false, ⟨none, .store 2 (.t 8) (.t 21), [3, 2, 4, 0, 1, 2, 3, 4], none⟩⟩] [] 3932160)
 (.seq (.region [⟨true, ⟨(some 22), .mov (.t 1), [], none⟩⟩,
   ⟨true, ⟨(some 23), .mov (.t 7), [], none⟩⟩,
   ⟨true, ⟨(some 24), .iaddr none 2 (.t 22) (.t 23), [0, 1], none⟩⟩,
   ⟨true, ⟨(some 25), .load (some 2) (.t 24), [2], none⟩⟩,
   ⟨true, ⟨(some 9), .alloc .dyn (.agg [(.str []), .nilsl]), [], none⟩⟩,
   ⟨false, ⟨none, .store 2 (.t 9) (.t 25), [4, 3, 0, 1, 2, 3, 4], none⟩⟩] [] 62914688)
 (.seq (.region [⟨true, ⟨(some 26), .mov (.t 2), [], none⟩⟩,
   ⟨true, ⟨(some 27), .load (some 2) (.t 8), [], none⟩⟩,
   ⟨true, ⟨(some 28), .load (some 2) (.t 9), [], none⟩⟩,
   ⟨true, ⟨(some 29), .call .heap (.t 26) [(.t 27), (.t 28)], [0, 1, 2], none⟩⟩,
   ⟨true, ⟨(some 30), .un .not (.t 29), [3], none⟩⟩] [] 1006633728)
 (.cond (.t 30)
  (.seq (.region [⟨true, ⟨(some 6), .mov (.c (.bool false)), [], none⟩⟩] [] 1073971206)
  .ret)
  .skip)))))
 (.region [⟨true, ⟨(some 31), .bin .add (.t 17) (.c (.int .i64 (.ofNat 1))), [], none⟩⟩,
   ⟨false, ⟨(some 17), .mov (.t 31), [0], none⟩⟩] [] 3221225536)))))))
 (.seq (.region [⟨true, ⟨(some 6), .mov (.c (.bool true)), [], none⟩⟩] [] 229382)
 .ret))))⟩
def f45 : FFn := ⟨17, [.tmp 4],
 (.seq (.region [⟨true, ⟨(some 2), .box .dyn (.t 0), [], none⟩⟩,
   ⟨true, ⟨(some 3), .box .dyn (.t 1), [], none⟩⟩,
   ⟨true, ⟨(some 4), .mov (.c (.bool false)), [], none⟩⟩] [] 19)
 (.seq (.region [⟨true, ⟨(some 5), .faddr 0 (.t 2), [], none⟩⟩,
   ⟨true, ⟨(some 6), .load none (.t 5), [0], none⟩⟩,
   ⟨true, ⟨(some 7), .faddr 0 (.t 3), [], none⟩⟩,
   ⟨true, ⟨(some 8), .load none (.t 7), [2], none⟩⟩,
   ⟨true, ⟨(some 9), .bin .eql (.t 6) (.t 8), [1, 3], none⟩⟩,
   ⟨true, ⟨(some 10), .mov (.t 9), [4], none⟩⟩,
   ⟨true, ⟨(some 11), .faddr 1 (.t 2), [5], (some (10, true))⟩⟩,
   ⟨true, ⟨(some 12), .load none (.t 11), [6, 5], (some (10, true))⟩⟩,
   ⟨true, ⟨(some 13), .faddr 1 (.t 3), [5], (some (10, true))⟩⟩,
   ⟨true, ⟨(some 14), .load none (.t 13), [8, 5], (some (10, true))⟩⟩,
   ⟨true, ⟨(some 15), .call .heap (.f 46) [(.t 12), (.t 14)], [7, 9, 5, 5], (some (10, true))⟩⟩,
   ⟨true, ⟨(some 16), .pick (.t 10) (.t 15) (.c (.bool false)), [5, 10], none⟩⟩,
   ⟨true, ⟨(some 4), .mov (.t 16), [11, 10, 0, 1, 2, 3, 4, 5, 6, 7, 8, 9, 10, 11], none⟩⟩] [] 131052)
 .ret))⟩
def f46 : FFn := ⟨26, [.tmp 4],
 (.seq (.region [⟨true, ⟨(some 4), .mov (.c (.bool false)), [], none⟩⟩] [] 16)
 (.seq (.seq (.region [⟨true, ⟨(some 6), .mov (.t 0), [], none⟩⟩,
   ⟨true, ⟨(some 7), .len 1 (.t 6), [0], none⟩⟩,
   ⟨true, ⟨(some 8), .mov (.t 1), [], none⟩⟩,
   ⟨true, ⟨(some 9), .len 1 (.t 8), [2], none⟩⟩,
   ⟨true, ⟨(some 10), .bin .neq (.t 7) (.t 9), [1, 3], none⟩⟩] [] 960)
 (.cond (.t 10)
  (.seq (.region [⟨true, ⟨(some 4), .mov (.c (.bool false)), [], none⟩⟩] [] 1027)
  .ret)
  .skip))
 (.seq (.seq (.region [⟨true, ⟨(some 11), .mov (.t 0), [], none⟩⟩,
   ⟨true, ⟨(some 12), .len 1 (.t 11), [0], none⟩⟩,
   ⟨true, ⟨(some 13), .mov (.c (.int .i64 (.ofNat 0))), [], none⟩⟩] [] 3088)
 (.block 0 (.loop (.seq (.region [⟨true, ⟨(some 14), .bin .lss (.t 13) (.t 12), [], none⟩⟩] [] 0)
 (.seq (.cond (.t 14)
  .skip
  (.exit 0))
 (.seq (.block 1 (.seq (.region [⟨true, ⟨(some 15), .mov (.t 13), [], none⟩⟩,
   ⟨true, ⟨(some 5), .mov (.t 15), [0, 0], none⟩⟩] [] 49152)
 (.seq (.region [⟨true, ⟨(some 16), .mov (.t 0), [], none⟩⟩,
   ⟨true, ⟨(some 17), .mov (.t 5), [], none⟩⟩,
   ⟨true, ⟨(some 18), .iaddr none 2 (.t 16) (.t 17), [0, 1], none⟩⟩,
   ⟨true, ⟨(some 19), .load (some 2) (.t 18), [2], none⟩⟩,
   ⟨true, ⟨(some 20), .mov (.t 1), [], none⟩⟩,
   ⟨true, ⟨(some 21), .mov (.t 5), [], none⟩⟩,
   ⟨true, ⟨(some 22), .iaddr none 2 (.t 20) (.t 21), [4, 5], none⟩⟩,
   ⟨true, ⟨(some 23), .load (some 2) (.t 22), [6], none⟩⟩,
   ⟨true, ⟨(some 24), .eq (.flat true [.i, .i]) true (.t 19) (.t 23), [3, 7], none⟩⟩] [] 16711712)
 (.cond (.t 24)
  (.seq (.region [⟨true, ⟨(some 4), .mov (.c (.bool false)), [], none⟩⟩] [] 16789507)
  .ret)
  .skip))))
 (.region [⟨true, ⟨(some 25), .bin .add (.t 13) (.c (.int .i64 (.ofNat 1))), [], none⟩⟩,
   ⟨false, ⟨(some 13), .mov (.t 25), [0], none⟩⟩] [] 50331664)))))))
 (.seq (.region [⟨true, ⟨(some 4), .mov (.c (.bool true)), [], none⟩⟩] [] 12291)
 .ret))))⟩
def f47 : FFn := ⟨32, [.tmp 6],
 (.seq (.region [⟨true, ⟨(some 6), .mov (.c (.bool false)), [], none⟩⟩] [] 64)
 (.seq (.seq (.region [⟨true, ⟨(some 10), .mov (.t 0), [], none⟩⟩,
   ⟨true, ⟨(some 11), .len 1 (.t 10), [0], none⟩⟩,
   ⟨true, ⟨(some 12), .mov (.t 1), [], none⟩⟩,
   ⟨true, ⟨(some 13), .len 1 (.t 12), [2], none⟩⟩,
   ⟨true, ⟨(some 14), .bin .neq (.t 11) (.t 13), [1, 3], none⟩⟩] [] 15360)
 (.cond (.t 14)
  (.seq (.region [⟨true, ⟨(some 6), .mov (.c (.bool false)), [], none⟩⟩] [] 16391)
  .ret)
  .skip))
 (.seq (.seq (.region [⟨true, ⟨(some 15), .mov (.t 0), [], none⟩⟩,
   ⟨true, ⟨(some 16), .len 1 (.t 15), [0], none⟩⟩,
   ⟨true, ⟨(some 17), .mov (.c (.int .i64 (.ofNat 0))), [], none⟩⟩] [] 16449)
 (.block 0 (.loop (.seq (.region [⟨true, ⟨(some 18), .bin .lss (.t 17) (.t 16), [], none⟩⟩] [] 0)
 (.seq (.cond (.t 18)
  .skip
  (.exit 0))
 (.seq (.block 1 (.seq (.region [⟨true, ⟨(some 19), .mov (.t 17), [], none⟩⟩,
   ⟨true, ⟨(some 20), .iaddr none 3 (.t 15) (.t 17), [], none⟩⟩,
   ⟨true, ⟨(some 21), .load (some 3) (.t 20), [1], none⟩⟩,
   ⟨true, ⟨(some 8), .alloc .dyn (.agg [(.str []), .nilsl, (.int .i64 (.ofNat 0))]), [], none⟩⟩,
   ⟨true, ⟨(some 7), .mov (.t 19), [0, 0, 1, 2, 3], none⟩⟩,
   ⟨false, ⟨none, .store 3 (.t 8) (.t 21), [3, 2, 4, 0, 1, 2, 3, 4], none⟩⟩] [] 3932160)
 (.seq (.region [⟨true, ⟨(some 22), .mov (.t 1), [], none⟩⟩,
   ⟨true, ⟨(some 23), .mov (.t 7), [], none⟩⟩,
   ⟨true, ⟨(some 24), .iaddr none 3 (.t 22) (.t 23), [0, 1], none⟩⟩,
   ⟨true, ⟨(some 25), .load (some 3) (.t 24), [2], none⟩⟩,
   ⟨true, ⟨(some 9), .alloc .dyn (.agg [(.str []), .nilsl, (.int .i64 (.ofNat 0))]), [], none⟩⟩,
   ⟨false, ⟨none, .store 3 (.t 9) (.t 25), [4, 3, 0, 1, 2, 3, 4], none⟩⟩] [] 62914688)
 (.seq (.region [⟨true, ⟨(some 26), .mov (.t 2), [], none⟩⟩,
   ⟨true, ⟨(some 27), .load (some 3) (.t 8), [], none⟩⟩,
   ⟨true, ⟨(some 28), .load (some 3) (.t 9), [], none⟩⟩,
   ⟨true, ⟨(some 29), .call .heap (.t 26) [(.t 27), (.t 28)], [0, 1, 2], none⟩⟩,
   ⟨true, ⟨(some 30), .un .not (.t 29), [3], none⟩⟩] [] 1006633728)
 (.cond (.t 30)
  (.seq (.region [⟨true, ⟨(some 6), .mov (.c (.bool false)), [], none⟩⟩] [] 1073971206)
  .ret)
  .skip)))))
 (.region [⟨true, ⟨(some 31), .bin .add (.t 17) (.c (.int .i64 (.ofNat 1))), [], none⟩⟩,
   ⟨false, ⟨(some 17), .mov (.t 31), [0], none⟩⟩] [] 3221225536)))))))
 (.seq (.region [⟨true, ⟨(some 6), .mov (.c (.bool true)), [], none⟩⟩] [] 229382)
 .ret))))⟩
def f48 : FFn := ⟨24, [.tmp 4],
 (.seq (.region [⟨true, ⟨(some 2), .box .dyn (.t 0), [], none⟩⟩,
   ⟨true, ⟨(some 3), .box .dyn (.t 1), [], none⟩⟩,
   ⟨true, ⟨(some 4), .mov (.c (.bool false)), [], none⟩⟩] [] 19)
 (.seq (.region [⟨true, ⟨(some 5), .faddr 0 (.t 2), [], none⟩⟩,
   ⟨true, ⟨(some 6), .load none (.t 5), [0], none⟩⟩,
   ⟨true, ⟨(some 7), .faddr 0 (.t 3), [], none⟩⟩,
   ⟨true, ⟨(some 8), .load none (.t 7), [2], none⟩⟩,
   ⟨true, ⟨(some 9), .bin .eql (.t 6) (.t 8), [1, 3], none⟩⟩,
   ⟨true, ⟨(some 10), .mov (.t 9), [4], none⟩⟩,
   ⟨true, ⟨(some 11), .faddr 2 (.t 2), [5], (some (10, true))⟩⟩,
   ⟨true, ⟨(some 12), .load none (.t 11), [6, 5], (some (10, true))⟩⟩,
   ⟨true, ⟨(some 13), .faddr 2 (.t 3), [5], (some (10, true))⟩⟩,
   ⟨true, ⟨(some 14), .load none (.t 13), [8, 5], (some (10, true))⟩⟩,
   ⟨true, ⟨(some 15), .bin .eql (.t 12) (.t 14), [7, 9, 5], (some (10, true))⟩⟩,
   ⟨true, ⟨(some 16), .pick (.t 10) (.t 15) (.c (.bool false)), [5, 10], none⟩⟩,
   ⟨true, ⟨(some 17), .mov (.t 16), [11, 5], none⟩⟩,
   ⟨true, ⟨(some 18), .faddr 1 (.t 2), [12], (some (17, true))⟩⟩,
   ⟨true, ⟨(some 19), .load none (.t 18), [13, 12], (some (17, true))⟩⟩,
   ⟨true, ⟨(some 20), .faddr 1 (.t 3), [12], (some (17, true))⟩⟩,
   ⟨true, ⟨(some 21), .load none (.t 20), [15, 12], (some (17, true))⟩⟩,
   ⟨true, ⟨(some 22), .call .heap (.f 49) [(.t 19), (.t 21)], [14, 16, 12, 12], (some (17, true))⟩⟩,
   ⟨true, ⟨(some 23), .pick (.t 17) (.t 22) (.c (.bool false)), [12, 17], none⟩⟩,
   ⟨true, ⟨(some 4), .mov (.t 23), [18, 17, 0, 1, 2, 3, 4, 5, 6, 7, 8, 9, 10, 11, 12, 13, 14, 15, 16, 17, 18], none⟩⟩] [] 16777196)
 .ret))⟩
def f49 : FFn := ⟨26, [.tmp 4],
 (.seq (.region [⟨true, ⟨(some 4), .mov (.c (.bool false)), [], none⟩⟩] [] 16)
 (.seq (.seq (.region [⟨true, ⟨(some 6), .mov (.t 0), [], none⟩⟩,
   ⟨true, ⟨(some 7), .len 1 (.t 6), [0], none⟩⟩,
   ⟨true, ⟨(some 8), .mov (.t 1), [], none⟩⟩,
   ⟨true, ⟨(some 9), .len 1 (.t 8), [2], none⟩⟩,
   ⟨true, ⟨(some 10), .bin .neq (.t 7) (.t 9), [1, 3], none⟩⟩] [] 960)
 (.cond (.t 10)
  (.seq (.region [⟨true, ⟨(some 4), .mov (.c (.bool false)), [], none⟩⟩] [] 1027)
  .ret)
  .skip))
 (.seq (.seq (.region [⟨true, ⟨(some 11), .mov (.t 0), [], none⟩⟩,
   ⟨true, ⟨(some 12), .len 1 (.t 11), [0], none⟩⟩,
   ⟨true, ⟨(some 13), .mov (.c (.int .i64 (.ofNat 0))), [], none⟩⟩] [] 3088)
 (.block 0 (.loop (.seq (.region [⟨true, ⟨(some 14), .bin .lss (.t 13) (.t 12), [], none⟩⟩] [] 0)
 (.seq (.cond (.t 14)
  .skip
  (.exit 0))
 (.seq (.block 1 (.seq (.region [⟨true, ⟨(some 15), .mov (.t 13), [], none⟩⟩,
   ⟨true, ⟨(some 5), .mov (.t 15), [0, 0], none⟩⟩] [] 49152)
 (.seq (.region [⟨true, ⟨(some 16), .mov (.t 0), [], none⟩⟩,
   ⟨true, ⟨(some 17), .mov (.t 5), [], none⟩⟩,
   ⟨true, ⟨(some 18), .iaddr none 2 (.t 16) (.t 17), [0, 1], none⟩⟩,
   ⟨true, ⟨(some 19), .load (some 2) (.t 18), [2], none⟩⟩,
   ⟨true, ⟨(some 20), .mov (.t 1), [], none⟩⟩,
   ⟨true, ⟨(some 21), .mov (.t 5), [], none⟩⟩,
   ⟨true, ⟨(some 22), .iaddr none 2 (.t 20) (.t 21), [4, 5], none⟩⟩,
   ⟨true, ⟨(some 23), .load (some 2) (.t 22), [6], none⟩⟩,
   ⟨true, ⟨(some 24), .eq (.flat true [.i, .i]) true (.t 19) (.t 23), [3, 7], none⟩⟩] [] 16711712)
 (.cond (.t 24)
  (.seq (.region [⟨true, ⟨(some 4), .mov (.c (.bool false)), [], none⟩⟩] [] 16789507)
  .ret)
  .skip))))
 (.region [⟨true, ⟨(some 25), .bin .add (.t 13) (.c (.int .i64 (.ofNat 1))), [], none⟩⟩,
   ⟨false, ⟨(some 13), .mov (.t 25), [0], none⟩⟩] [] 50331664)))))))
 (.seq (.region [⟨true, ⟨(some 4), .mov (.c (.bool true)), [], none⟩⟩] [] 12291)
 .ret))))⟩
def f50 : FFn := ⟨45, [.cell 8 (some 5)],
 (.seq (.region [⟨true, ⟨(some 8), .alloc .dyn (.agg [.nilsl, .nilsl, .nilsl, .nilsl, .nilsl]), [], none⟩⟩] [] 0)
 (.seq (.region [⟨true, ⟨(some 9), .alloc .dyn (.agg [.nilsl, .nilsl, .nilsl, .nilsl, .nilsl]), [], none⟩⟩] [] 0)
 (.seq (.seq (.region [⟨true, ⟨(some 10), .mov (.c (.int .i64 (.ofNat 0))), [], none⟩⟩] [] 0)
 (.block 0 (.loop (.seq (.seq (.region [⟨true, ⟨(some 11), .mov (.t 10), [], none⟩⟩,
   ⟨true, ⟨(some 12), .mov (.t 0), [], none⟩⟩,
   ⟨true, ⟨(some 13), .bin .lss (.t 11) (.t 12), [0, 1], none⟩⟩] [] 6144)
 (.cond (.t 13)
  .skip
  (.exit 0)))
 (.seq (.block 1 (.seq (.region [⟨true, ⟨(some 16), .faddr 0 (.t 9), [], none⟩⟩,
   ⟨true, ⟨(some 17), .load none (.t 16), [0], none⟩⟩,
   ⟨true, ⟨(some 18), .mov (.t 2), [], none⟩⟩,
   ⟨true, ⟨(some 19), .mov (.t 10), [], none⟩⟩,
   ⟨true, ⟨(some 20), .call .pure (.f 52) [(.t 18), (.t 19)], [2, 3], none⟩⟩,
   ⟨true, ⟨(some 21), .build [(.str []), (.bool false), (.bool false), (.bool false), (.int .i64 (.ofNat 0))] [(0, 1, (.t 20)), (1, 1, (.c (.bool true))), (2, 1, (.c (.bool true)))], [4], none⟩⟩,
   ⟨true, ⟨(some 22), .mov (.t 3), [], none⟩⟩,
   ⟨true, ⟨(some 23), .mov (.t 10), [], none⟩⟩,
   ⟨true, ⟨(some 24), .call .pure (.f 52) [(.t 22), (.t 23)], [6, 7, 4], none⟩⟩,
   ⟨true, ⟨(some 25), .build [(.str []), (.bool false), (.bool false), (.bool false), (.int .i64 (.ofNat 0))] [(0, 1, (.t 24)), (2, 1, (.c (.bool true)))], [8], none⟩⟩,
   ⟨true, ⟨(some 26), .bslice false .dyn 5 2 [(.str []), (.bool false), (.bool false), (.bool false), (.int .i64 (.ofNat 0)), (.str []), (.bool false), (.bool false), (.bool false), (.int .i64 (.ofNat 0))] [(0, 5, (.t 21)), (5, 5, (.t 25))], [5, 9], none⟩⟩,
   ⟨true, ⟨(some 27), .append .dyn 5 32 (.t 17) (.t 26), [1, 10, 8], none⟩⟩,
   ⟨true, ⟨(some 28), .faddr 0 (.t 9), [0, 1, 2, 3, 4, 5, 6, 7, 8, 9, 10, 11], none⟩⟩,
   ⟨false, ⟨none, .store 1 (.t 28) (.t 27), [12, 11, 11, 0, 1, 2, 3, 4, 5, 6, 7, 8, 9, 10, 11], none⟩⟩] [] 536813568)
 (.region [⟨true, ⟨(some 29), .faddr 1 (.t 9), [], none⟩⟩,
   ⟨true, ⟨(some 30), .load none (.t 29), [0], none⟩⟩,
   ⟨true, ⟨(some 31), .mov (.t 1), [], none⟩⟩,
   ⟨true, ⟨(some 32), .mov (.t 10), [], none⟩⟩,
   ⟨true, ⟨(some 33), .call .pure (.f 52) [(.t 31), (.t 32)], [2, 3], none⟩⟩,
   ⟨true, ⟨(some 34), .mov (.t 10), [], none⟩⟩,
   ⟨true, ⟨(some 35), .bin .mul (.c (.int .i64 (.ofNat 2))) (.t 34), [5], none⟩⟩,
   ⟨true, ⟨(some 36), .mov (.t 10), [], none⟩⟩,
   ⟨true, ⟨(some 37), .bin .mul (.c (.int .i64 (.ofNat 2))) (.t 36), [7], none⟩⟩,
   ⟨true, ⟨(some 38), .bin .add (.t 37) (.c (.int .i64 (.ofNat 1))), [8], none⟩⟩,
   ⟨true, ⟨(some 39), .call .pure (.f 94) [(.t 35), (.t 38)], [6, 9, 4], none⟩⟩,
   ⟨true, ⟨(some 40), .build [(.str []), .nilsl, (.int .i64 (.ofNat 0)), .nilsl, .nilsl] [(0, 1, (.t 33)), (1, 4, (.t 39))], [4, 10], none⟩⟩,
   ⟨true, ⟨(some 41), .bslice false .dyn 5 1 [(.str []), .nilsl, (.int .i64 (.ofNat 0)), .nilsl, .nilsl] [(0, 5, (.t 40))], [11], none⟩⟩,
   ⟨true, ⟨(some 42), .append .dyn 5 96 (.t 30) (.t 41), [1, 12, 10], none⟩⟩,
   ⟨true, ⟨(some 43), .faddr 1 (.t 9), [0, 1, 2, 3, 4, 5, 6, 7, 8, 9, 10, 11, 12, 13], none⟩⟩,
   ⟨false, ⟨none, .store 1 (.t 43) (.t 42), [14, 13, 13, 0, 1, 2, 3, 4, 5, 6, 7, 8, 9, 10, 11, 12, 13], none⟩⟩] [] 17591649173504)))
 (.region [⟨true, ⟨(some 14), .mov (.t 10), [], none⟩⟩,
   ⟨true, ⟨(some 15), .bin .add (.t 14) (.c (.int .i64 (.ofNat 1))), [0], none⟩⟩,
   ⟨false, ⟨(some 10), .mov (.t 15), [1, 0, 1], none⟩⟩] [] 49152))))))
 (.seq (.region [⟨true, ⟨(some 44), .load (some 5) (.t 9), [], none⟩⟩,
   ⟨false, ⟨none, .store 5 (.t 8) (.t 44), [0, 0], none⟩⟩] [] 17592186045967)
 .ret))))⟩
def f51 : FFn := ⟨52, [.cell 6 (some 4)],
 (.seq (.region [⟨true, ⟨(some 6), .alloc .dyn (.agg [.nilsl, (.int .i64 (.ofNat 0)), .nilsl, .nilsl]), [], none⟩⟩] [] 0)
 (.seq (.region [⟨true, ⟨(some 9), .mov (.t 0), [], none⟩⟩,
   ⟨true, ⟨(some 10), .mov (.t 1), [], none⟩⟩,
   ⟨true, ⟨(some 11), .bslice false .dyn 1 2 [(.int .i64 (.ofNat 0)), (.int .i64 (.ofNat 0))] [(0, 1, (.t 9)), (1, 1, (.t 10))], [0, 1], none⟩⟩,
   ⟨true, ⟨(some 12), .mov (.t 2), [], none⟩⟩,
   ⟨true, ⟨(some 13), .bin .add (.t 12) (.c (.int .i64 (.ofNat 1))), [3], none⟩⟩,
   ⟨true, ⟨(some 14), .build [.nilsl, (.int .i64 (.ofNat 0)), .nilsl, .nilsl] [(0, 1, (.t 11)), (1, 1, (.t 13))], [2, 4], none⟩⟩,
   ⟨true, ⟨(some 7), .alloc .dyn (.agg [.nilsl, (.int .i64 (.ofNat 0)), .nilsl, .nilsl]), [], none⟩⟩,
   ⟨false, ⟨none, .store 4 (.t 7) (.t 14), [6, 5, 0, 1, 2, 3, 4, 5, 6], none⟩⟩] [] 32256)
 (.seq (.seq (.region [⟨true, ⟨(some 8), .mov (.c (.int .i64 (.ofNat 0))), [], none⟩⟩] [] 0)
 (.block 0 (.loop (.seq (.seq (.region [⟨true, ⟨(some 15), .mov (.t 8), [], none⟩⟩,
   ⟨true, ⟨(some 16), .mov (.t 2), [], none⟩⟩,
   ⟨true, ⟨(some 17), .bin .leq (.t 15) (.t 16), [0, 1], none⟩⟩] [] 98304)
 (.cond (.t 17)
  .skip
  (.exit 0)))
 (.seq (.block 1 (.seq (.region [⟨true, ⟨(some 20), .faddr 2 (.t 7), [], none⟩⟩,
   ⟨true, ⟨(some 21), .load none (.t 20), [0], none⟩⟩,
   ⟨true, ⟨(some 22), .mov (.t 8), [], none⟩⟩,
   ⟨true, ⟨(some 23), .bslice false .dyn 1 1 [(.int .i64 (.ofNat 0))] [(0, 1, (.t 22))], [2], none⟩⟩,
   ⟨true, ⟨(some 24), .append .dyn 1 8 (.t 21) (.t 23), [1, 3], none⟩⟩,
   ⟨true, ⟨(some 25), .faddr 2 (.t 7), [0, 1, 2, 3, 4], none⟩⟩,
   ⟨false, ⟨none, .store 1 (.t 25) (.t 24), [5, 4, 4, 0, 1, 2, 3, 4], none⟩⟩] [] 66191360)
 (.seq (.seq (.region [⟨true, ⟨(some 26), .mov (.t 8), [], none⟩⟩,
   ⟨true, ⟨(some 27), .mov (.t 2), [], none⟩⟩,
   ⟨true, ⟨(some 28), .bin .lss (.t 26) (.t 27), [0, 1], none⟩⟩] [] 201326592)
 (.cond (.t 28)
  (.region [⟨true, ⟨(some 29), .faddr 3 (.t 7), [], none⟩⟩,
    ⟨true, ⟨(some 30), .load none (.t 29), [0], none⟩⟩,
    ⟨true, ⟨(some 31), .mov (.t 8), [], none⟩⟩,
    ⟨true, ⟨(some 32), .mov (.t 0), [], none⟩⟩,
    ⟨true, ⟨(some 33), .mov (.t 8), [], none⟩⟩,
    ⟨true, ⟨(some 34), .bin .add (.t 33) (.c (.int .i64 (.ofNat 1))), [4], none⟩⟩,
    ⟨true, ⟨(some 35), .build [(.int .i64 (.ofNat 0)), (.int .i64 (.ofNat 0)), (.int .i64 (.ofNat 0))] [(0, 1, (.t 31)), (1, 1, (.t 32)), (2, 1, (.t 34))], [2, 3, 5], none⟩⟩,
    ⟨true, ⟨(some 36), .bslice false .dyn 3 1 [(.int .i64 (.ofNat 0)), (.int .i64 (.ofNat 0)), (.int .i64 (.ofNat 0))] [(0, 3, (.t 35))], [6], none⟩⟩,
    ⟨true, ⟨(some 37), .append .dyn 3 24 (.t 30) (.t 36), [1, 7], none⟩⟩,
    ⟨true, ⟨(some 38), .faddr 3 (.t 7), [0, 1, 2, 3, 4, 5, 6, 7, 8], none⟩⟩,
    ⟨false, ⟨none, .store 1 (.t 38) (.t 37), [9, 8, 8, 0, 1, 2, 3, 4, 5, 6, 7, 8], none⟩⟩] [] 549487378432)
  .skip))
 (.seq (.region [⟨true, ⟨(some 39), .mov (.t 8), [], none⟩⟩,
   ⟨true, ⟨(some 40), .bin .gtr (.t 39) (.c (.int .i64 (.ofNat 0))), [0], none⟩⟩] [] 550024249344)
 (.cond (.t 40)
  (.region [⟨true, ⟨(some 41), .faddr 3 (.t 7), [], none⟩⟩,
    ⟨true, ⟨(some 42), .load none (.t 41), [0], none⟩⟩,
    ⟨true, ⟨(some 43), .mov (.t 8), [], none⟩⟩,
    ⟨true, ⟨(some 44), .mov (.t 1), [], none⟩⟩,
    ⟨true, ⟨(some 45), .mov (.t 8), [], none⟩⟩,
    ⟨true, ⟨(some 46), .bin .sub (.t 45) (.c (.int .i64 (.ofNat 1))), [4], none⟩⟩,
    ⟨true, ⟨(some 47), .build [(.int .i64 (.ofNat 0)), (.int .i64 (.ofNat 0)), (.int .i64 (.ofNat 0))] [(0, 1, (.t 43)), (1, 1, (.t 44)), (2, 1, (.t 46))], [2, 3, 5], none⟩⟩,
    ⟨true, ⟨(some 48), .bslice false .dyn 3 1 [(.int .i64 (.ofNat 0)), (.int .i64 (.ofNat 0)), (.int .i64 (.ofNat 0))] [(0, 3, (.t 47))], [6], none⟩⟩,
    ⟨true, ⟨(some 49), .append .dyn 3 24 (.t 42) (.t 48), [1, 7], none⟩⟩,
    ⟨true, ⟨(some 50), .faddr 3 (.t 7), [0, 1, 2, 3, 4, 5, 6, 7, 8], none⟩⟩,
    ⟨false, ⟨none, .store 1 (.t 50) (.t 49), [9, 8, 8, 0, 1, 2, 3, 4, 5, 6, 7, 8], none⟩⟩] [] 2250700302057472)
  .skip)))))
 (.region [⟨true, ⟨(some 18), .mov (.t 8), [], none⟩⟩,
   ⟨true, ⟨(some 19), .bin .add (.t 18) (.c (.int .i64 (.ofNat 1))), [0], none⟩⟩,
   ⟨false, ⟨(some 8), .mov (.t 19), [1, 0, 1], none⟩⟩] [] 1099512414208))))))
 (.seq (.region [⟨true, ⟨(some 51), .load (some 4) (.t 7), [], none⟩⟩,
   ⟨false, ⟨none, .store 4 (.t 6) (.t 51), [0, 0], none⟩⟩] [] 2251799813685639)
 .ret))))⟩
def f52 : FFn := ⟨12, [.tmp 4],
 (.seq (.region [⟨true, ⟨(some 4), .mov (.c (.str [])), [], none⟩⟩] [] 16)
 (.seq (.region [⟨true, ⟨(some 5), .mov (.t 0), [], none⟩⟩,
   ⟨true, ⟨(some 6), .mov (.t 1), [], none⟩⟩,
   ⟨true, ⟨(some 7), .conv .u8 (.t 6), [1], none⟩⟩,
   ⟨true, ⟨(some 8), .bin .add (.c (.int .u8 (.ofNat 48))) (.t 7), [2], none⟩⟩,
   ⟨true, ⟨(some 9), .bslice false .dyn 1 1 [(.int .u8 (.ofNat 0))] [(0, 1, (.t 8))], [3], none⟩⟩,
   ⟨true, ⟨(some 10), .convB (.t 9), [4], none⟩⟩,
   ⟨true, ⟨(some 11), .bin .add (.t 5) (.t 10), [0, 5], none⟩⟩,
   ⟨true, ⟨(some 4), .mov (.t 11), [6, 0, 1, 2, 3, 4, 5, 6], none⟩⟩] [] 4067)
 .ret))⟩
def f53 : FFn := ⟨87, [.cell 2 (some 5)],
 (.seq (.region [⟨true, ⟨(some 2), .alloc .dyn (.agg [.nilsl, .nilsl, .nilsl, .nilsl, .nilsl]), [], none⟩⟩] [] 0)
 (.seq (.region [⟨true, ⟨(some 3), .alloc .dyn (.agg [.nilsl, .nilsl, .nilsl, .nilsl, .nilsl]), [], none⟩⟩] [] 0)
 (.seq (.seq (.region [⟨true, ⟨(some 4), .mov (.c (.int .i64 (.ofNat 0))), [], none⟩⟩] [] 0)
 (.block 0 (.loop (.seq (.seq (.region [⟨true, ⟨(some 8), .mov (.t 4), [], none⟩⟩,
   ⟨true, ⟨(some 9), .mov (.t 0), [], none⟩⟩,
   ⟨true, ⟨(some 10), .bin .lss (.t 8) (.t 9), [0, 1], none⟩⟩] [] 768)
 (.cond (.t 10)
  .skip
  (.exit 0)))
 (.seq (.block 1 (.seq (.region [⟨true, ⟨(some 13), .faddr 0 (.t 3), [], none⟩⟩,
   ⟨true, ⟨(some 14), .load none (.t 13), [0], none⟩⟩,
   ⟨true, ⟨(some 15), .mov (.t 4), [], none⟩⟩,
   ⟨true, ⟨(some 16), .call .pure (.f 52) [(.c (.str [108, 101, 102, 116])), (.t 15)], [2], none⟩⟩,
   ⟨true, ⟨(some 17), .build [(.str []), (.bool false), (.bool false), (.bool false), (.int .i64 (.ofNat 0))] [(0, 1, (.t 16)), (1, 1, (.c (.bool true))), (2, 1, (.c (.bool true)))], [3], none⟩⟩,
   ⟨true, ⟨(some 18), .mov (.t 4), [], none⟩⟩,
   ⟨true, ⟨(some 19), .call .pure (.f 52) [(.c (.str [114, 105, 103, 104, 116])), (.t 18)], [5, 3], none⟩⟩,
   ⟨true, ⟨(some 20), .build [(.str []), (.bool false), (.bool false), (.bool false), (.int .i64 (.ofNat 0))] [(0, 1, (.t 19)), (1, 1, (.c (.bool true))), (2, 1, (.c (.bool true)))], [6], none⟩⟩,
   ⟨true, ⟨(some 21), .mov (.t 4), [], none⟩⟩,
   ⟨true, ⟨(some 22), .call .pure (.f 52) [(.c (.str [112, 117, 116])), (.t 21)], [8, 6], none⟩⟩,
   ⟨true, ⟨(some 23), .build [(.str []), (.bool false), (.bool false), (.bool false), (.int .i64 (.ofNat 0))] [(0, 1, (.t 22)), (2, 1, (.c (.bool true)))], [9], none⟩⟩,
   ⟨true, ⟨(some 24), .bslice false .dyn 5 3 [(.str []), (.bool false), (.bool false), (.bool false), (.int .i64 (.ofNat 0)), (.str []), (.bool false), (.bool false), (.bool false), (.int .i64 (.ofNat 0)), (.str []), (.bool false), (.bool false), (.bool false), (.int .i64 (.ofNat 0))] [(0, 5, (.t 17)), (5, 5, (.t 20)), (10, 5, (.t 23))], [4, 7, 10], none⟩⟩,
   ⟨true, ⟨(some 25), .append .dyn 5 32 (.t 14) (.t 24), [1, 11, 9], none⟩⟩,
   ⟨true, ⟨(some 26), .faddr 0 (.t 3), [0, 1, 2, 3, 4, 5, 6, 7, 8, 9, 10, 11, 12], none⟩⟩,
   ⟨false, ⟨none, .store 1 (.t 26) (.t 25), [13, 12, 12, 0, 1, 2, 3, 4, 5, 6, 7, 8, 9, 10, 11, 12], none⟩⟩] [] 134210560)
 (.seq (.region [⟨true, ⟨(some 27), .mov (.t 4), [], none⟩⟩,
   ⟨true, ⟨(some 28), .bin .mul (.c (.int .i64 (.ofNat 3))) (.t 27), [0], none⟩⟩,
   ⟨true, ⟨(some 29), .mov (.t 4), [], none⟩⟩,
   ⟨true, ⟨(some 30), .bin .mul (.c (.int .i64 (.ofNat 3))) (.t 29), [2], none⟩⟩,
   ⟨true, ⟨(some 31), .bin .add (.t 30) (.c (.int .i64 (.ofNat 1))), [3], none⟩⟩,
   ⟨true, ⟨(some 32), .mov (.t 4), [], none⟩⟩,
   ⟨true, ⟨(some 33), .bin .mul (.c (.int .i64 (.ofNat 3))) (.t 32), [5], none⟩⟩,
   ⟨true, ⟨(some 34), .bin .add (.t 33) (.c (.int .i64 (.ofNat 2))), [6], none⟩⟩,
   ⟨true, ⟨(some 35), .bslice false .dyn 1 3 [(.int .i64 (.ofNat 0)), (.int .i64 (.ofNat 0)), (.int .i64 (.ofNat 0))] [(0, 1, (.t 28)), (1, 1, (.t 31)), (2, 1, (.t 34))], [1, 4, 7], none⟩⟩,
   ⟨true, ⟨(some 36), .bslice false .dyn 1 1 [(.int .i64 (.ofNat 0))] [(0, 1, (.c (.int .i64 (.ofNat 0))))], [], none⟩⟩,
   ⟨true, ⟨(some 37), .build [.nilsl, (.int .i64 (.ofNat 0)), .nilsl, .nilsl] [(0, 1, (.t 35)), (1, 1, (.c (.int .i64 (.ofNat 3)))), (2, 1, (.t 36))], [8, 9], none⟩⟩,
   ⟨true, ⟨(some 5), .alloc .dyn (.agg [.nilsl, (.int .i64 (.ofNat 0)), .nilsl, .nilsl]), [], none⟩⟩,
   ⟨false, ⟨none, .store 4 (.t 5) (.t 37), [11, 10, 0, 1, 2, 3, 4, 5, 6, 7, 8, 9, 10, 11], none⟩⟩] [] 274743689216)
 (.seq (.seq (.region [⟨true, ⟨(some 6), .mov (.c (.int .i64 (.ofNat 0))), [], none⟩⟩] [] 0)
 (.block 2 (.loop (.seq (.seq (.region [⟨true, ⟨(some 38), .mov (.t 6), [], none⟩⟩,
   ⟨true, ⟨(some 39), .bin .lss (.t 38) (.c (.int .i64 (.ofNat 3))), [0], none⟩⟩] [] 274877906944)
 (.cond (.t 39)
  .skip
  (.exit 2)))
 (.seq (.block 3 (.region [⟨true, ⟨(some 42), .faddr 3 (.t 5), [], none⟩⟩,
   ⟨true, ⟨(some 43), .load none (.t 42), [0], none⟩⟩,
   ⟨true, ⟨(some 44), .mov (.t 6), [], none⟩⟩,
   ⟨true, ⟨(some 45), .mov (.t 4), [], none⟩⟩,
   ⟨true, ⟨(some 46), .bin .mul (.c (.int .i64 (.ofNat 3))) (.t 45), [3], none⟩⟩,
   ⟨true, ⟨(some 47), .mov (.t 6), [], none⟩⟩,
   ⟨true, ⟨(some 48), .bin .add (.t 46) (.t 47), [4, 5], none⟩⟩,
   ⟨true, ⟨(some 49), .mov (.t 6), [], none⟩⟩,
   ⟨true, ⟨(some 50), .bin .add (.t 49) (.c (.int .i64 (.ofNat 1))), [7], none⟩⟩,
   ⟨true, ⟨(some 51), .bin .rem (.t 50) (.c (.int .i64 (.ofNat 3))), [8], none⟩⟩,
   ⟨true, ⟨(some 52), .build [(.int .i64 (.ofNat 0)), (.int .i64 (.ofNat 0)), (.int .i64 (.ofNat 0))] [(0, 1, (.t 44)), (1, 1, (.t 48)), (2, 1, (.t 51))], [2, 6, 9], none⟩⟩,
   ⟨true, ⟨(some 53), .bslice false .dyn 3 1 [(.int .i64 (.ofNat 0)), (.int .i64 (.ofNat 0)), (.int .i64 (.ofNat 0))] [(0, 3, (.t 52))], [10], none⟩⟩,
   ⟨true, ⟨(some 54), .append .dyn 3 24 (.t 43) (.t 53), [1, 11], none⟩⟩,
   ⟨true, ⟨(some 55), .faddr 3 (.t 5), [0, 1, 2, 3, 4, 5, 6, 7, 8, 9, 10, 11, 12], none⟩⟩,
   ⟨false, ⟨none, .store 1 (.t 55) (.t 54), [13, 12, 12, 0, 1, 2, 3, 4, 5, 6, 7, 8, 9, 10, 11, 12], none⟩⟩] [] 72053745747230720))
 (.region [⟨true, ⟨(some 40), .mov (.t 6), [], none⟩⟩,
   ⟨true, ⟨(some 41), .bin .add (.t 40) (.c (.int .i64 (.ofNat 1))), [0], none⟩⟩,
   ⟨false, ⟨(some 6), .mov (.t 41), [1, 0, 1], none⟩⟩] [] 3298534883328))))))
 (.region [⟨true, ⟨(some 56), .faddr 1 (.t 3), [], none⟩⟩,
   ⟨true, ⟨(some 57), .load none (.t 56), [0], none⟩⟩,
   ⟨true, ⟨(some 58), .mov (.t 4), [], none⟩⟩,
   ⟨true, ⟨(some 59), .call .pure (.f 52) [(.c (.str [112, 104, 105, 108, 111, 115, 111, 112, 104, 101, 114])), (.t 58)], [2], none⟩⟩,
   ⟨true, ⟨(some 60), .load (some 4) (.t 5), [], none⟩⟩,
   ⟨true, ⟨(some 61), .build [(.str []), .nilsl, (.int .i64 (.ofNat 0)), .nilsl, .nilsl] [(0, 1, (.t 59)), (1, 4, (.t 60))], [3, 4], none⟩⟩,
   ⟨true, ⟨(some 62), .bslice false .dyn 5 1 [(.str []), .nilsl, (.int .i64 (.ofNat 0)), .nilsl, .nilsl] [(0, 5, (.t 61))], [5], none⟩⟩,
   ⟨true, ⟨(some 63), .append .dyn 5 96 (.t 57) (.t 62), [1, 6, 3], none⟩⟩,
   ⟨true, ⟨(some 64), .faddr 1 (.t 3), [0, 1, 2, 3, 4, 5, 6, 7], none⟩⟩,
   ⟨false, ⟨none, .store 1 (.t 64) (.t 63), [8, 7, 7, 0, 1, 2, 3, 4, 5, 6, 7], none⟩⟩] [] 36821430553381175392)))))
 (.region [⟨true, ⟨(some 11), .mov (.t 4), [], none⟩⟩,
   ⟨true, ⟨(some 12), .bin .add (.t 11) (.c (.int .i64 (.ofNat 1))), [0], none⟩⟩,
   ⟨false, ⟨(some 4), .mov (.t 12), [1, 0, 1], none⟩⟩] [] 6144))))))
 (.seq (.seq (.region [⟨true, ⟨(some 7), .mov (.c (.int .i64 (.ofNat 0))), [], none⟩⟩] [] 16)
 (.block 4 (.loop (.seq (.seq (.region [⟨true, ⟨(some 65), .mov (.t 7), [], none⟩⟩,
   ⟨true, ⟨(some 66), .mov (.t 0), [], none⟩⟩,
   ⟨true, ⟨(some 67), .bin .lss (.t 65) (.t 66), [0, 1], none⟩⟩] [] 110680464442257309696)
 (.cond (.t 67)
  .skip
  (.exit 4)))
 (.seq (.block 5 (.region [⟨true, ⟨(some 70), .faddr 1 (.t 3), [], none⟩⟩,
   ⟨true, ⟨(some 71), .load none (.t 70), [0], none⟩⟩,
   ⟨true, ⟨(some 72), .mov (.t 7), [], none⟩⟩,
   ⟨true, ⟨(some 73), .call .pure (.f 52) [(.c (.str [102, 111, 114, 107])), (.t 72)], [2], none⟩⟩,
   ⟨true, ⟨(some 74), .mov (.t 7), [], none⟩⟩,
   ⟨true, ⟨(some 75), .mov (.t 7), [], none⟩⟩,
   ⟨true, ⟨(some 76), .mov (.t 0), [], none⟩⟩,
   ⟨true, ⟨(some 77), .bin .add (.t 75) (.t 76), [5, 6], none⟩⟩,
   ⟨true, ⟨(some 78), .bin .sub (.t 77) (.c (.int .i64 (.ofNat 1))), [7], none⟩⟩,
   ⟨true, ⟨(some 79), .mov (.t 0), [], none⟩⟩,
   ⟨true, ⟨(some 80), .bin .rem (.t 78) (.t 79), [8, 9], none⟩⟩,
   ⟨true, ⟨(some 81), .call .pure (.f 95) [(.t 74), (.t 80)], [4, 10, 3], none⟩⟩,
   ⟨true, ⟨(some 82), .build [(.str []), .nilsl, (.int .i64 (.ofNat 0)), .nilsl, .nilsl] [(0, 1, (.t 73)), (1, 4, (.t 81))], [3, 11], none⟩⟩,
   ⟨true, ⟨(some 83), .bslice false .dyn 5 1 [(.str []), .nilsl, (.int .i64 (.ofNat 0)), .nilsl, .nilsl] [(0, 5, (.t 82))], [12], none⟩⟩,
   ⟨true, ⟨(some 84), .append .dyn 5 96 (.t 71) (.t 83), [1, 13, 11], none⟩⟩,
   ⟨true, ⟨(some 85), .faddr 1 (.t 3), [0, 1, 2, 3, 4, 5, 6, 7, 8, 9, 10, 11, 12, 13, 14], none⟩⟩,
   ⟨false, ⟨none, .store 1 (.t 85) (.t 84), [15, 14, 14, 0, 1, 2, 3, 4, 5, 6, 7, 8, 9, 10, 11, 12, 13, 14], none⟩⟩] [] 77370219437668139446304768))
 (.region [⟨true, ⟨(some 68), .mov (.t 7), [], none⟩⟩,
   ⟨true, ⟨(some 69), .bin .add (.t 68) (.c (.int .i64 (.ofNat 1))), [0], none⟩⟩,
   ⟨false, ⟨(some 7), .mov (.t 69), [1, 0, 1], none⟩⟩] [] 885443715538058477568))))))
 (.seq (.region [⟨true, ⟨(some 86), .load (some 5) (.t 3), [], none⟩⟩,
   ⟨false, ⟨none, .store 5 (.t 2) (.t 86), [0, 0], none⟩⟩] [] 77371252455336267181195401)
 .ret)))))⟩
def f54 : FFn := ⟨51, [.tmp 2],
 (.seq (.region [⟨true, ⟨(some 2), .mov (.c (.int .i64 (.ofNat 0))), [], none⟩⟩] [] 4)
 (.seq (.seq (.region [⟨true, ⟨(some 6), .mov (.t 0), [], none⟩⟩,
   ⟨true, ⟨(some 7), .len 1 (.t 6), [0], none⟩⟩,
   ⟨true, ⟨(some 8), .bin .gtr (.t 7) (.c (.int .i64 (.ofNat 32))), [1], none⟩⟩] [] 192)
 (.cond (.t 8)
  (.seq (.region [⟨true, ⟨(some 2), .mov (.c (.int .i64 (.ofNat 3))), [], none⟩⟩] [] 257)
  .ret)
  .skip))
 (.seq (.region [⟨true, ⟨(some 9), .mkmap .dyn, [], none⟩⟩,
   ⟨true, ⟨(some 3), .mov (.t 9), [0, 0], none⟩⟩] [] 772)
 (.seq (.seq (.region [⟨true, ⟨(some 10), .mov (.t 0), [], none⟩⟩,
   ⟨true, ⟨(some 11), .len 1 (.t 10), [0], none⟩⟩,
   ⟨true, ⟨(some 12), .mov (.c (.int .i64 (.ofNat 0))), [], none⟩⟩] [] 1)
 (.block 0 (.loop (.seq (.region [⟨true, ⟨(some 13), .bin .lss (.t 12) (.t 11), [], none⟩⟩] [] 0)
 (.seq (.cond (.t 13)
  .skip
  (.exit 0))
 (.seq (.block 1 (.seq (.region [⟨true, ⟨(some 14), .iaddr none 5 (.t 10) (.t 12), [], none⟩⟩,
   ⟨true, ⟨(some 15), .load (some 5) (.t 14), [0], none⟩⟩,
   ⟨true, ⟨(some 5), .alloc .dyn (.agg [(.str []), (.bool false), (.bool false), (.bool false), (.int .i64 (.ofNat 0))]), [], none⟩⟩,
   ⟨false, ⟨none, .store 5 (.t 5) (.t 15), [2, 1, 0, 1, 2], none⟩⟩] [] 57344)
 (.seq (.block 2 (.seq (.region [⟨true, ⟨(some 17), .faddr 0 (.t 5), [], none⟩⟩,
   ⟨true, ⟨(some 18), .load none (.t 17), [0], none⟩⟩,
   ⟨true, ⟨(some 19), .call .heap (.f 96) [(.t 18)], [1], none⟩⟩,
   ⟨true, ⟨(some 20), .un .not (.t 19), [2], none⟩⟩,
   ⟨true, ⟨(some 16), .mov (.t 20), [3, 2], none⟩⟩] [] 1966080)
 (.cond (.t 16)
  (.seq (.region [⟨true, ⟨(some 2), .mov (.c (.int .i64 (.ofNat 7))), [], none⟩⟩] [] 69284265008168)
  .ret)
  (.seq (.region [⟨true, ⟨(some 22), .mov (.t 3), [], none⟩⟩,
    ⟨true, ⟨(some 23), .faddr 0 (.t 5), [], none⟩⟩,
    ⟨true, ⟨(some 24), .load none (.t 23), [1], none⟩⟩,
    ⟨true, ⟨(some 25), .lookup false [.s] (.bool false) false (.t 22) (.t 24), [0, 2], none⟩⟩,
    ⟨true, ⟨(some 21), .mov (.t 25), [3], none⟩⟩] [] 62980096)
  (.cond (.t 21)
   (.seq (.region [⟨true, ⟨(some 2), .mov (.c (.int .i64 (.ofNat 8))), [], none⟩⟩] [] 69284267039784)
   .ret)
   (.seq (.region [⟨true, ⟨(some 27), .faddr 4 (.t 5), [], none⟩⟩,
     ⟨true, ⟨(some 28), .load none (.t 27), [0], none⟩⟩,
     ⟨true, ⟨(some 29), .bin .lss (.t 28) (.c (.int .i64 (.ofNat 0))), [1], none⟩⟩,
     ⟨true, ⟨(some 30), .mov (.t 29), [2], none⟩⟩,
     ⟨false, ⟨(some 31), .faddr 4 (.t 5), [3], (some (30, false))⟩⟩,
     ⟨false, ⟨(some 32), .load none (.t 31), [4, 3], (some (30, false))⟩⟩,
     ⟨false, ⟨(some 33), .bin .gtr (.t 32) (.c (.int .i64 (.ofNat 4))), [5, 3], (some (30, false))⟩⟩,
     ⟨true, ⟨(some 34), .pick (.t 30) (.c (.bool true)) (.t 33), [3, 6], none⟩⟩,
     ⟨true, ⟨(some 26), .mov (.t 34), [7, 3], none⟩⟩] [] 19195232256)
   (.cond (.t 26)
    (.seq (.region [⟨true, ⟨(some 2), .mov (.c (.int .i64 (.ofNat 2))), [], none⟩⟩] [] 69284332051496)
    .ret)
    (.seq (.region [⟨true, ⟨(some 36), .faddr 4 (.t 5), [], none⟩⟩,
      ⟨true, ⟨(some 37), .load none (.t 36), [0], none⟩⟩,
      ⟨true, ⟨(some 38), .bin .neq (.t 37) (.c (.int .i64 (.ofNat 0))), [1], none⟩⟩,
      ⟨true, ⟨(some 39), .mov (.t 38), [2], none⟩⟩,
      ⟨false, ⟨(some 40), .faddr 1 (.t 5), [3], (some (39, true))⟩⟩,
      ⟨false, ⟨(some 41), .load none (.t 40), [4, 3], (some (39, true))⟩⟩,
      ⟨false, ⟨(some 42), .mov (.t 41), [5, 3, 3], (some (39, true))⟩⟩,
      ⟨false, ⟨(some 43), .faddr 2 (.t 5), [6], (some (42, false))⟩⟩,
      ⟨false, ⟨(some 44), .load none (.t 43), [7, 6], (some (42, false))⟩⟩,
      ⟨false, ⟨(some 45), .pick (.t 42) (.c (.bool true)) (.t 44), [6, 8, 3], (some (39, true))⟩⟩,
      ⟨true, ⟨(some 46), .pick (.t 39) (.t 45) (.c (.bool false)), [3, 9], none⟩⟩,
      ⟨true, ⟨(some 35), .mov (.t 46), [10, 6], none⟩⟩] [] 71399603437568)
    (.cond (.t 35)
     (.seq (.region [⟨true, ⟨(some 2), .mov (.c (.int .i64 (.ofNat 13))), [], none⟩⟩] [] 69318624681000)
     .ret)
     .skip)))))))))
 (.region [⟨true, ⟨(some 47), .mov (.t 3), [], none⟩⟩,
   ⟨true, ⟨(some 48), .faddr 0 (.t 5), [], none⟩⟩,
   ⟨true, ⟨(some 49), .load none (.t 48), [1], none⟩⟩,
   ⟨false, ⟨none, .mupd false [.s] (.t 47) (.t 49) (.c (.bool true)), [0, 2, 0, 1, 2], none⟩⟩] [] 985196778225700))))
 (.region [⟨true, ⟨(some 50), .bin .add (.t 12) (.c (.int .i64 (.ofNat 1))), [], none⟩⟩,
   ⟨false, ⟨(some 12), .mov (.t 50), [0], none⟩⟩] [] 1125899906842624)))))))
 (.seq (.region [⟨true, ⟨(some 2), .mov (.c (.int .i64 (.ofNat 0))), [], none⟩⟩] [] 69284264942600)
 .ret)))))⟩
def f55 : FFn := ⟨52, [.tmp 8],
 (.seq (.region [⟨true, ⟨(some 4), .box .dyn (.t 0), [], none⟩⟩,
   ⟨true, ⟨(some 5), .box .dyn (.t 1), [], none⟩⟩,
   ⟨true, ⟨(some 8), .mov (.c (.int .i64 (.ofNat 0))), [], none⟩⟩] [] 259)
 (.seq (.block 0 (.seq (.region [⟨true, ⟨(some 11), .faddr 0 (.t 4), [], none⟩⟩,
   ⟨true, ⟨(some 12), .load none (.t 11), [0], none⟩⟩,
   ⟨true, ⟨(some 13), .call .heap (.f 96) [(.t 12)], [1], none⟩⟩,
   ⟨true, ⟨(some 14), .un .not (.t 13), [2], none⟩⟩,
   ⟨true, ⟨(some 10), .mov (.t 14), [3, 2], none⟩⟩] [] 30720)
 (.cond (.t 10)
  (.seq (.region [⟨true, ⟨(some 8), .mov (.c (.int .i64 (.ofNat 7))), [], none⟩⟩] [] 1084)
  .ret)
  (.seq (.region [⟨true, ⟨(some 16), .mov (.t 3), [], none⟩⟩,
    ⟨true, ⟨(some 17), .faddr 0 (.t 4), [], none⟩⟩,
    ⟨true, ⟨(some 18), .load none (.t 17), [1], none⟩⟩,
    ⟨true, ⟨(some 19), .lookup false [.s] (.bool false) false (.t 16) (.t 18), [0, 2], none⟩⟩,
    ⟨true, ⟨(some 15), .mov (.t 19), [3], none⟩⟩] [] 984064)
  (.cond (.t 15)
   (.seq (.region [⟨true, ⟨(some 8), .mov (.c (.int .i64 (.ofNat 8))), [], none⟩⟩] [] 32828)
   .ret)
   .skip)))))
 (.seq (.region [⟨true, ⟨(some 20), .mov (.t 3), [], none⟩⟩,
   ⟨true, ⟨(some 21), .faddr 0 (.t 4), [], none⟩⟩,
   ⟨true, ⟨(some 22), .load none (.t 21), [1], none⟩⟩,
   ⟨false, ⟨none, .mupd false [.s] (.t 20) (.t 22) (.c (.bool true)), [0, 2, 0, 1, 2], none⟩⟩] [] 7373064)
 (.seq (.seq (.region [⟨true, ⟨(some 23), .faddr 1 (.t 4), [], none⟩⟩,
   ⟨true, ⟨(some 24), .load (some 4) (.t 23), [0], none⟩⟩,
   ⟨true, ⟨(some 25), .call .heap (.f 67) [(.t 24)], [1], none⟩⟩,
   ⟨true, ⟨(some 9), .mov (.t 25), [2, 2, 0, 1, 2], none⟩⟩] [] 58720256)
 (.seq (.region [⟨true, ⟨(some 26), .mov (.t 9), [], none⟩⟩,
   ⟨true, ⟨(some 27), .bin .neq (.t 26) (.c (.int .i64 (.ofNat 0))), [0], none⟩⟩] [] 67108864)
 (.cond (.t 27)
  (.seq (.region [⟨true, ⟨(some 28), .mov (.t 9), [], none⟩⟩,
    ⟨true, ⟨(some 8), .mov (.t 28), [0, 0], none⟩⟩] [] 402653748)
  .ret)
  .skip)))
 (.seq (.block 1 (.seq (.region [⟨true, ⟨(some 30), .faddr 1 (.t 4), [], none⟩⟩,
   ⟨true, ⟨(some 31), .load (some 4) (.t 30), [0], none⟩⟩,
   ⟨true, ⟨(some 32), .call .heap (.f 97) [(.t 31)], [1], none⟩⟩,
   ⟨true, ⟨(some 33), .un .not (.t 32), [2], none⟩⟩,
   ⟨true, ⟨(some 29), .mov (.t 33), [3, 2], none⟩⟩] [] 16240345856)
 (.cond (.t 29)
  (.seq (.region [⟨true, ⟨(some 8), .mov (.c (.int .i64 (.ofNat 6))), [], none⟩⟩] [] 536870964)
  .ret)
  (.seq (.region [⟨true, ⟨(some 35), .faddr 1 (.t 4), [], none⟩⟩,
    ⟨true, ⟨(some 36), .faddr 1 (.t 35), [0], none⟩⟩,
    ⟨true, ⟨(some 37), .load none (.t 36), [1], none⟩⟩,
    ⟨true, ⟨(some 38), .bin .eql (.t 37) (.c (.int .i64 (.ofNat 0))), [2], none⟩⟩,
    ⟨true, ⟨(some 34), .mov (.t 38), [3], none⟩⟩] [] 515932946432)
  (.cond (.t 34)
   (.seq (.region [⟨true, ⟨(some 8), .mov (.c (.int .i64 (.ofNat 12))), [], none⟩⟩] [] 17179869236)
   .ret)
   (.seq (.region [⟨true, ⟨(some 40), .faddr 1 (.t 4), [], none⟩⟩,
     ⟨true, ⟨(some 41), .faddr 0 (.t 40), [0], none⟩⟩,
     ⟨true, ⟨(some 42), .load none (.t 41), [1], none⟩⟩,
     ⟨true, ⟨(some 43), .mkfn 99 [] [(.t 5)], [], none⟩⟩,
     ⟨true, ⟨(some 44), .call .heap (.f 98) [(.t 42), (.t 43)], [2, 3], none⟩⟩,
     ⟨true, ⟨(some 39), .mov (.t 44), [4, 4], none⟩⟩] [] 34102040330272)
   (.cond (.t 39)
    (.seq (.region [⟨true, ⟨(some 8), .mov (.c (.int .i64 (.ofNat 2))), [], none⟩⟩] [] 549755813908)
    .ret)
    (.seq (.region [⟨true, ⟨(some 46), .faddr 1 (.t 4), [], none⟩⟩,
      ⟨true, ⟨(some 47), .faddr 0 (.t 46), [0], none⟩⟩,
      ⟨true, ⟨(some 48), .load none (.t 47), [1], none⟩⟩,
      ⟨true, ⟨(some 49), .mov (.t 2), [], none⟩⟩,
      ⟨true, ⟨(some 50), .call .heap (.f 100) [(.t 48), (.t 49)], [2, 3], none⟩⟩,
      ⟨true, ⟨(some 51), .un .not (.t 50), [4], none⟩⟩,
      ⟨true, ⟨(some 45), .mov (.t 51), [5, 4], none⟩⟩] [] 4433780639006740)
    (.cond (.t 45)
     (.seq (.region [⟨true, ⟨(some 8), .mov (.c (.int .i64 (.ofNat 9))), [], none⟩⟩] [] 35184372088832)
     .ret)
     .skip)))))))))
 (.seq (.region [⟨false, ⟨(some 8), .mov (.c (.int .i64 (.ofNat 0))), [], none⟩⟩] [] 35184372088832)
 .ret))))))⟩
def f56 : FFn := ⟨8, [.tmp 4],
 (.seq (.region [⟨true, ⟨(some 4), .mov (.c .nilsl), [], none⟩⟩] [] 16)
 (.seq (.region [⟨true, ⟨(some 5), .mov (.t 0), [], none⟩⟩,
   ⟨true, ⟨(some 6), .mov (.t 1), [], none⟩⟩,
   ⟨true, ⟨(some 7), .call .heap (.f 101) [(.t 5), (.t 6), (.f 102)], [0, 1], none⟩⟩,
   ⟨true, ⟨(some 4), .mov (.t 7), [2, 2, 0, 1, 2], none⟩⟩] [] 227)
 .ret))⟩
def f57 : FFn := ⟨89, [.tmp 2],
 (.seq (.region [⟨true, ⟨(some 1), .box .dyn (.t 0), [], none⟩⟩,
   ⟨true, ⟨(some 2), .mov (.c (.int .i64 (.ofNat 0))), [], none⟩⟩] [] 5)
 (.seq (.seq (.region [⟨true, ⟨(some 15), .faddr 0 (.t 1), [], none⟩⟩,
   ⟨true, ⟨(some 16), .load none (.t 15), [0], none⟩⟩,
   ⟨true, ⟨(some 17), .len 1 (.t 16), [1], none⟩⟩,
   ⟨true, ⟨(some 18), .bin .gtr (.t 17) (.c (.int .i64 (.ofNat 8))), [2], none⟩⟩] [] 229376)
 (.cond (.t 18)
  (.seq (.region [⟨true, ⟨(some 2), .mov (.c (.int .i64 (.ofNat 3))), [], none⟩⟩] [] 262146)
  .ret)
  .skip))
 (.seq (.seq (.region [⟨true, ⟨(some 19), .faddr 0 (.t 1), [], none⟩⟩,
   ⟨true, ⟨(some 20), .load none (.t 19), [0], none⟩⟩,
   ⟨true, ⟨(some 21), .len 1 (.t 20), [1], none⟩⟩,
   ⟨true, ⟨(some 22), .mov (.c (.int .i64 (.ofNat 0))), [], none⟩⟩] [] 786436)
 (.block 0 (.loop (.seq (.region [⟨true, ⟨(some 23), .bin .lss (.t 22) (.t 21), [], none⟩⟩] [] 0)
 (.seq (.cond (.t 23)
  .skip
  (.exit 0))
 (.seq (.block 1 (.seq (.region [⟨true, ⟨(some 24), .iaddr none 1 (.t 20) (.t 22), [], none⟩⟩,
   ⟨true, ⟨(some 25), .load none (.t 24), [0], none⟩⟩,
   ⟨true, ⟨(some 4), .mov (.t 25), [1, 0, 1], none⟩⟩] [] 58720256)
 (.seq (.region [⟨true, ⟨(some 26), .mov (.t 4), [], none⟩⟩,
   ⟨true, ⟨(some 27), .bin .lss (.t 26) (.c (.int .i64 (.ofNat 1))), [0], none⟩⟩,
   ⟨true, ⟨(some 28), .mov (.t 27), [1], none⟩⟩,
   ⟨false, ⟨(some 29), .mov (.t 4), [2], (some (28, false))⟩⟩,
   ⟨false, ⟨(some 30), .bin .gtr (.t 29) (.c (.int .i64 (.ofNat 4096))), [3, 2], (some (28, false))⟩⟩,
   ⟨true, ⟨(some 31), .pick (.t 28) (.c (.bool true)) (.t 30), [2, 4], none⟩⟩] [] 469762064)
 (.cond (.t 31)
  (.seq (.region [⟨true, ⟨(some 2), .mov (.c (.int .i64 (.ofNat 2))), [], none⟩⟩] [] 4126934040578)
  .ret)
  .skip))))
 (.region [⟨true, ⟨(some 32), .bin .add (.t 22) (.c (.int .i64 (.ofNat 1))), [], none⟩⟩,
   ⟨false, ⟨(some 22), .mov (.t 32), [0], none⟩⟩] [] 6442450948)))))))
 (.seq (.seq (.region [⟨true, ⟨(some 33), .faddr 1 (.t 1), [], none⟩⟩,
   ⟨true, ⟨(some 34), .load none (.t 33), [0], none⟩⟩,
   ⟨true, ⟨(some 35), .len 1 (.t 34), [1], none⟩⟩,
   ⟨true, ⟨(some 36), .bin .gtr (.t 35) (.c (.int .i64 (.ofNat 32))), [2], none⟩⟩,
   ⟨true, ⟨(some 37), .mov (.t 36), [3], none⟩⟩,
   ⟨false, ⟨(some 38), .faddr 2 (.t 1), [4], (some (37, false))⟩⟩,
   ⟨false, ⟨(some 39), .load none (.t 38), [5, 4], (some (37, false))⟩⟩,
   ⟨false, ⟨(some 40), .len 1 (.t 39), [6, 4], (some (37, false))⟩⟩,
   ⟨false, ⟨(some 41), .bin .gtr (.t 40) (.c (.int .i64 (.ofNat 32))), [7, 4], (some (37, false))⟩⟩,
   ⟨true, ⟨(some 42), .pick (.t 37) (.c (.bool true)) (.t 41), [4, 8], none⟩⟩] [] 4391074529280)
 (.cond (.t 42)
  (.seq (.region [⟨true, ⟨(some 2), .mov (.c (.int .i64 (.ofNat 3))), [], none⟩⟩] [] 4398046511106)
  .ret)
  .skip))
 (.seq (.seq (.region [⟨true, ⟨(some 43), .faddr 1 (.t 1), [], none⟩⟩,
   ⟨true, ⟨(some 44), .load none (.t 43), [0], none⟩⟩,
   ⟨true, ⟨(some 45), .len 1 (.t 44), [1], none⟩⟩,
   ⟨true, ⟨(some 46), .mov (.c (.int .i64 (.ofNat 0))), [], none⟩⟩] [] 13194139533316)
 (.block 2 (.loop (.seq (.region [⟨true, ⟨(some 47), .bin .lss (.t 46) (.t 45), [], none⟩⟩] [] 0)
 (.seq (.cond (.t 47)
  .skip
  (.exit 2))
 (.seq (.block 3 (.seq (.region [⟨true, ⟨(some 48), .mov (.t 46), [], none⟩⟩,
   ⟨true, ⟨(some 49), .iaddr none 2 (.t 44) (.t 46), [], none⟩⟩,
   ⟨true, ⟨(some 50), .load (some 2) (.t 49), [1], none⟩⟩,
   ⟨true, ⟨(some 5), .alloc .dyn (.int .i64 (.ofNat 0)), [], none⟩⟩,
   ⟨true, ⟨(some 6), .alloc .dyn (.agg [(.str []), .nilsl]), [], none⟩⟩,
   ⟨false, ⟨none, .store 1 (.t 5) (.t 48), [3, 0, 0, 1, 2, 3, 4], none⟩⟩,
   ⟨false, ⟨none, .store 2 (.t 6) (.t 50), [4, 2, 5, 0, 1, 2, 3, 4, 5], none⟩⟩] [] 2111062325329920)
 (.seq (.region [⟨true, ⟨(some 51), .mkfn 103 [] [(.t 1), (.t 5)], [], none⟩⟩,
   ⟨true, ⟨(some 7), .mov (.t 51), [0, 0], none⟩⟩] [] 2251799813685280)
 (.seq (.seq (.region [⟨true, ⟨(some 52), .faddr 0 (.t 6), [], none⟩⟩,
   ⟨true, ⟨(some 53), .load none (.t 52), [0], none⟩⟩,
   ⟨true, ⟨(some 54), .mov (.t 7), [], none⟩⟩,
   ⟨true, ⟨(some 55), .call .heap (.f 104) [(.t 53), (.t 54)], [1, 2], none⟩⟩,
   ⟨true, ⟨(some 8), .mov (.t 55), [3, 3, 0, 1, 2, 3], none⟩⟩] [] 67553994410557568)
 (.seq (.region [⟨true, ⟨(some 56), .mov (.t 8), [], none⟩⟩,
   ⟨true, ⟨(some 57), .bin .neq (.t 56) (.c (.int .i64 (.ofNat 0))), [0], none⟩⟩] [] 72057594037927936)
 (.cond (.t 57)
  (.seq (.region [⟨true, ⟨(some 58), .mov (.t 8), [], none⟩⟩,
    ⟨true, ⟨(some 2), .mov (.t 58), [0, 0], none⟩⟩] [] 432468709529878850)
  .ret)
  .skip)))
 (.seq (.region [⟨true, ⟨(some 59), .load (some 3) (.t 1), [], none⟩⟩,
   ⟨true, ⟨(some 60), .load (some 2) (.t 6), [], none⟩⟩,
   ⟨true, ⟨(some 61), .call .heap (.f 105) [(.t 59), (.t 60)], [0, 1], none⟩⟩,
   ⟨true, ⟨(some 9), .mov (.t 61), [2, 2, 0, 1, 2], none⟩⟩] [] 4179340454199820612)
 (.seq (.region [⟨true, ⟨(some 62), .mov (.t 9), [], none⟩⟩,
   ⟨true, ⟨(some 63), .bin .neq (.t 62) (.c (.int .i64 (.ofNat 0))), [0], none⟩⟩] [] 4611686018427387904)
 (.cond (.t 63)
  (.seq (.region [⟨true, ⟨(some 64), .mov (.t 9), [], none⟩⟩,
    ⟨true, ⟨(some 2), .mov (.t 64), [0, 0], none⟩⟩] [] 27670239255866638850)
  .ret)
  .skip)))))))
 (.region [⟨true, ⟨(some 65), .bin .add (.t 46) (.c (.int .i64 (.ofNat 1))), [], none⟩⟩,
   ⟨false, ⟨(some 46), .mov (.t 65), [0], none⟩⟩] [] 46116860184273879556)))))))
 (.seq (.seq (.region [⟨true, ⟨(some 66), .faddr 2 (.t 1), [], none⟩⟩,
   ⟨true, ⟨(some 67), .load none (.t 66), [0], none⟩⟩,
   ⟨true, ⟨(some 68), .len 1 (.t 67), [1], none⟩⟩,
   ⟨true, ⟨(some 69), .mov (.c (.int .i64 (.ofNat 0))), [], none⟩⟩] [] 73787099440140517376)
 (.block 4 (.loop (.seq (.region [⟨true, ⟨(some 70), .bin .lss (.t 69) (.t 68), [], none⟩⟩] [] 0)
 (.seq (.cond (.t 70)
  .skip
  (.exit 4))
 (.seq (.block 5 (.seq (.region [⟨true, ⟨(some 71), .mov (.t 69), [], none⟩⟩,
   ⟨true, ⟨(some 72), .iaddr none 3 (.t 67) (.t 69), [], none⟩⟩,
   ⟨true, ⟨(some 73), .load (some 3) (.t 72), [1], none⟩⟩,
   ⟨true, ⟨(some 10), .alloc .dyn (.int .i64 (.ofNat 0)), [], none⟩⟩,
   ⟨true, ⟨(some 11), .alloc .dyn (.agg [(.str []), .nilsl, (.int .i64 (.ofNat 0))]), [], none⟩⟩,
   ⟨false, ⟨none, .store 1 (.t 10) (.t 71), [3, 0, 0, 1, 2, 3, 4], none⟩⟩,
   ⟨false, ⟨none, .store 3 (.t 11) (.t 73), [4, 2, 5, 0, 1, 2, 3, 4, 5], none⟩⟩] [] 17708874310761169551360)
 (.seq (.region [⟨true, ⟨(some 74), .mkfn 106 [] [(.t 1), (.t 10)], [], none⟩⟩,
   ⟨true, ⟨(some 12), .mov (.t 74), [0, 0], none⟩⟩] [] 18889465931478580855808)
 (.seq (.seq (.region [⟨true, ⟨(some 75), .faddr 0 (.t 11), [], none⟩⟩,
   ⟨true, ⟨(some 76), .load none (.t 75), [0], none⟩⟩,
   ⟨true, ⟨(some 77), .mov (.t 12), [], none⟩⟩,
   ⟨true, ⟨(some 78), .call .heap (.f 104) [(.t 76), (.t 77)], [1, 2], none⟩⟩,
   ⟨true, ⟨(some 13), .mov (.t 78), [3, 3, 0, 1, 2, 3], none⟩⟩] [] 566683977944357425647616)
 (.seq (.region [⟨true, ⟨(some 79), .mov (.t 13), [], none⟩⟩,
   ⟨true, ⟨(some 80), .bin .neq (.t 79) (.c (.int .i64 (.ofNat 0))), [0], none⟩⟩] [] 604462909807314587353088)
 (.cond (.t 80)
  (.seq (.region [⟨true, ⟨(some 81), .mov (.t 13), [], none⟩⟩,
    ⟨true, ⟨(some 2), .mov (.t 81), [0, 0], none⟩⟩] [] 3627810476512015259019266)
  .ret)
  .skip)))
 (.seq (.region [⟨true, ⟨(some 82), .load (some 3) (.t 1), [], none⟩⟩,
   ⟨true, ⟨(some 83), .load (some 3) (.t 11), [], none⟩⟩,
   ⟨true, ⟨(some 84), .call .heap (.f 107) [(.t 82), (.t 83)], [0, 1], none⟩⟩,
   ⟨true, ⟨(some 14), .mov (.t 84), [2, 2, 0, 1, 2], none⟩⟩] [] 35058848768824246066489348)
 (.seq (.region [⟨true, ⟨(some 85), .mov (.t 14), [], none⟩⟩,
   ⟨true, ⟨(some 86), .bin .neq (.t 85) (.c (.int .i64 (.ofNat 0))), [0], none⟩⟩] [] 38685626227668133590597632)
 (.cond (.t 86)
  (.seq (.region [⟨true, ⟨(some 87), .mov (.t 14), [], none⟩⟩,
    ⟨true, ⟨(some 2), .mov (.t 87), [0, 0], none⟩⟩] [] 232114790383676929278492674)
  .ret)
  .skip)))))))
 (.region [⟨true, ⟨(some 88), .bin .add (.t 69) (.c (.int .i64 (.ofNat 1))), [], none⟩⟩,
   ⟨false, ⟨(some 69), .mov (.t 88), [0], none⟩⟩] [] 386856262276681335905992708)))))))
 (.seq (.region [⟨true, ⟨(some 2), .mov (.c (.int .i64 (.ofNat 0))), [], none⟩⟩] [] 1033017668127734890498)
 .ret)))))))⟩
def f58 : FFn := ⟨68, [.cell 2 (some 3)],
 (.seq (.region [⟨true, ⟨(some 1), .box .dyn (.t 0), [], none⟩⟩,
   ⟨true, ⟨(some 2), .alloc .dyn (.agg [.nilsl, .nilsl, .nilsl]), [], none⟩⟩] [] 1)
 (.seq (.region [⟨true, ⟨(some 10), .build [.nilsl, .nilsl, .nilsl] [], [], none⟩⟩,
   ⟨true, ⟨(some 3), .alloc .dyn (.agg [.nilsl, .nilsl, .nilsl]), [], none⟩⟩,
   ⟨false, ⟨none, .store 3 (.t 3) (.t 10), [1, 0, 0, 1], none⟩⟩] [] 1024)
 (.seq (.seq (.region [⟨true, ⟨(some 11), .faddr 1 (.t 1), [], none⟩⟩,
   ⟨true, ⟨(some 12), .load none (.t 11), [0], none⟩⟩,
   ⟨true, ⟨(some 13), .len 1 (.t 12), [1], none⟩⟩,
   ⟨true, ⟨(some 14), .mov (.c (.int .i64 (.ofNat 0))), [], none⟩⟩] [] 2048)
 (.block 0 (.loop (.seq (.region [⟨true, ⟨(some 15), .bin .lss (.t 14) (.t 13), [], none⟩⟩] [] 0)
 (.seq (.cond (.t 15)
  .skip
  (.exit 0))
 (.seq (.block 1 (.seq (.region [⟨true, ⟨(some 16), .iaddr none 5 (.t 12) (.t 14), [], none⟩⟩,
   ⟨true, ⟨(some 17), .load (some 5) (.t 16), [0], none⟩⟩,
   ⟨true, ⟨(some 5), .alloc .dyn (.agg [(.str []), .nilsl, (.int .i64 (.ofNat 0)), .nilsl, .nilsl]), [], none⟩⟩,
   ⟨false, ⟨none, .store 5 (.t 5) (.t 17), [2, 1, 0, 1, 2], none⟩⟩] [] 229376)
 (.region [⟨true, ⟨(some 18), .faddr 0 (.t 3), [], none⟩⟩,
   ⟨true, ⟨(some 19), .load none (.t 18), [0], none⟩⟩,
   ⟨true, ⟨(some 20), .faddr 1 (.t 5), [], none⟩⟩,
   ⟨true, ⟨(some 21), .faddr 1 (.t 20), [2], none⟩⟩,
   ⟨true, ⟨(some 22), .load none (.t 21), [3], none⟩⟩,
   ⟨true, ⟨(some 23), .bslice false .dyn 1 1 [(.int .i64 (.ofNat 0))] [(0, 1, (.t 22))], [4], none⟩⟩,
   ⟨true, ⟨(some 24), .append .dyn 1 8 (.t 19) (.t 23), [1, 5], none⟩⟩,
   ⟨true, ⟨(some 25), .faddr 0 (.t 3), [0, 1, 2, 3, 4, 5, 6], none⟩⟩,
   ⟨false, ⟨none, .store 1 (.t 25) (.t 24), [7, 6, 6, 0, 1, 2, 3, 4, 5, 6], none⟩⟩] [] 66846752)))
 (.region [⟨true, ⟨(some 26), .bin .add (.t 14) (.c (.int .i64 (.ofNat 1))), [], none⟩⟩,
   ⟨false, ⟨(some 14), .mov (.t 26), [0], none⟩⟩] [] 67108864)))))))
 (.seq (.seq (.region [⟨true, ⟨(some 27), .faddr 3 (.t 1), [], none⟩⟩,
   ⟨true, ⟨(some 28), .load none (.t 27), [0], none⟩⟩,
   ⟨true, ⟨(some 29), .len 1 (.t 28), [1], none⟩⟩,
   ⟨true, ⟨(some 30), .mov (.c (.int .i64 (.ofNat 0))), [], none⟩⟩] [] 134246400)
 (.block 2 (.loop (.seq (.region [⟨true, ⟨(some 31), .bin .lss (.t 30) (.t 29), [], none⟩⟩] [] 0)
 (.seq (.cond (.t 31)
  .skip
  (.exit 2))
 (.seq (.block 3 (.seq (.region [⟨true, ⟨(some 32), .iaddr none 2 (.t 28) (.t 30), [], none⟩⟩,
   ⟨true, ⟨(some 33), .load (some 2) (.t 32), [0], none⟩⟩,
   ⟨true, ⟨(some 7), .alloc .dyn (.agg [(.str []), .nilsl]), [], none⟩⟩,
   ⟨false, ⟨none, .store 2 (.t 7) (.t 33), [2, 1, 0, 1, 2], none⟩⟩] [] 15032385536)
 (.region [⟨true, ⟨(some 34), .faddr 1 (.t 3), [], none⟩⟩,
   ⟨true, ⟨(some 35), .load none (.t 34), [0], none⟩⟩,
   ⟨true, ⟨(some 36), .faddr 0 (.t 7), [], none⟩⟩,
   ⟨true, ⟨(some 37), .load none (.t 36), [2], none⟩⟩,
   ⟨true, ⟨(some 38), .faddr 1 (.t 7), [], none⟩⟩,
   ⟨true, ⟨(some 39), .load none (.t 38), [4], none⟩⟩,
   ⟨true, ⟨(some 40), .call .heap (.f 108) [(.t 39)], [5], none⟩⟩,
   ⟨true, ⟨(some 41), .build [(.str []), .nilsl] [(0, 1, (.t 37)), (1, 1, (.t 40))], [3, 6], none⟩⟩,
   ⟨true, ⟨(some 42), .bslice false .dyn 2 1 [(.str []), .nilsl] [(0, 2, (.t 41))], [7], none⟩⟩,
   ⟨true, ⟨(some 43), .append .dyn 2 40 (.t 35) (.t 42), [1, 8, 6], none⟩⟩,
   ⟨true, ⟨(some 44), .faddr 1 (.t 3), [0, 1, 2, 3, 4, 5, 6, 7, 8, 9], none⟩⟩,
   ⟨false, ⟨none, .store 1 (.t 44) (.t 43), [10, 9, 9, 0, 1, 2, 3, 4, 5, 6, 7, 8, 9], none⟩⟩] [(1, 6), (3, 6), (1, 8)] 35167192219776)))
 (.region [⟨true, ⟨(some 45), .bin .add (.t 30) (.c (.int .i64 (.ofNat 1))), [], none⟩⟩,
   ⟨false, ⟨(some 30), .mov (.t 45), [0], none⟩⟩] [] 35184372088832)))))))
 (.seq (.seq (.region [⟨true, ⟨(some 46), .faddr 4 (.t 1), [], none⟩⟩,
   ⟨true, ⟨(some 47), .load none (.t 46), [0], none⟩⟩,
   ⟨true, ⟨(some 48), .len 1 (.t 47), [1], none⟩⟩,
   ⟨true, ⟨(some 49), .mov (.c (.int .i64 (.ofNat 0))), [], none⟩⟩] [] 70370623225858)
 (.block 4 (.loop (.seq (.region [⟨true, ⟨(some 50), .bin .lss (.t 49) (.t 48), [], none⟩⟩] [] 0)
 (.seq (.cond (.t 50)
  .skip
  (.exit 4))
 (.seq (.block 5 (.seq (.region [⟨true, ⟨(some 51), .iaddr none 3 (.t 47) (.t 49), [], none⟩⟩,
   ⟨true, ⟨(some 52), .load (some 3) (.t 51), [0], none⟩⟩,
   ⟨true, ⟨(some 9), .alloc .dyn (.agg [(.str []), .nilsl, (.int .i64 (.ofNat 0))]), [], none⟩⟩,
   ⟨false, ⟨none, .store 3 (.t 9) (.t 52), [2, 1, 0, 1, 2], none⟩⟩] [] 7881299347898368)
 (.region [⟨true, ⟨(some 53), .faddr 2 (.t 3), [], none⟩⟩,
   ⟨true, ⟨(some 54), .load none (.t 53), [0], none⟩⟩,
   ⟨true, ⟨(some 55), .faddr 0 (.t 9), [], none⟩⟩,
   ⟨true, ⟨(some 56), .load none (.t 55), [2], none⟩⟩,
   ⟨true, ⟨(some 57), .faddr 1 (.t 9), [], none⟩⟩,
   ⟨true, ⟨(some 58), .load none (.t 57), [4], none⟩⟩,
   ⟨true, ⟨(some 59), .call .pure (.f 109) [(.t 58)], [5], none⟩⟩,
   ⟨true, ⟨(some 60), .faddr 2 (.t 9), [], none⟩⟩,
   ⟨true, ⟨(some 61), .load none (.t 60), [7], none⟩⟩,
   ⟨true, ⟨(some 62), .build [(.str []), .nilsl, (.int .i64 (.ofNat 0))] [(0, 1, (.t 56)), (1, 1, (.t 59)), (2, 1, (.t 61))], [3, 6, 8], none⟩⟩,
   ⟨true, ⟨(some 63), .bslice false .dyn 3 1 [(.str []), .nilsl, (.int .i64 (.ofNat 0))] [(0, 3, (.t 62))], [9], none⟩⟩,
   ⟨true, ⟨(some 64), .append .dyn 3 48 (.t 54) (.t 63), [1, 10, 6], none⟩⟩,
   ⟨true, ⟨(some 65), .faddr 2 (.t 3), [0, 1, 2, 3, 4, 5, 6, 7, 8, 9, 10, 11], none⟩⟩,
   ⟨false, ⟨none, .store 1 (.t 65) (.t 64), [12, 11, 11, 0, 1, 2, 3, 4, 5, 6, 7, 8, 9, 10, 11], none⟩⟩] [] 73777969095583465984)))
 (.region [⟨true, ⟨(some 66), .bin .add (.t 49) (.c (.int .i64 (.ofNat 1))), [], none⟩⟩,
   ⟨false, ⟨(some 49), .mov (.t 66), [0], none⟩⟩] [] 73786976294838206464)))))))
 (.seq (.region [⟨true, ⟨(some 67), .load (some 3) (.t 3), [], none⟩⟩,
   ⟨false, ⟨none, .store 3 (.t 2) (.t 67), [0, 0], none⟩⟩] [] 147574937752094900232)
 .ret))))))⟩
def f61 : FFn := ⟨15, [.cell 8 (some 5)],
 (.seq (.region [⟨true, ⟨(some 8), .alloc .dyn (.agg [(.int .i64 (.ofNat 0)), (.int .i64 (.ofNat 0)), (.int .i64 (.ofNat 0)), (.int .i64 (.ofNat 0)), .nilsl]), [], none⟩⟩] [] 0)
 (.seq (.region [⟨true, ⟨(some 9), .mov (.t 0), [], none⟩⟩,
   ⟨true, ⟨(some 10), .mov (.t 2), [], none⟩⟩,
   ⟨true, ⟨(some 11), .mov (.t 1), [], none⟩⟩,
   ⟨true, ⟨(some 12), .mov (.t 1), [], none⟩⟩,
   ⟨true, ⟨(some 13), .mov (.t 3), [], none⟩⟩,
   ⟨true, ⟨(some 14), .build [(.int .i64 (.ofNat 0)), (.int .i64 (.ofNat 0)), (.int .i64 (.ofNat 0)), (.int .i64 (.ofNat 0)), .nilsl] [(0, 1, (.t 9)), (1, 1, (.t 10)), (2, 1, (.t 11)), (3, 1, (.t 12)), (4, 1, (.t 13))], [0, 1, 2, 3, 4], none⟩⟩,
   ⟨false, ⟨none, .store 5 (.t 8) (.t 14), [5, 0, 1, 2, 3, 4, 5], none⟩⟩] [] 32271)
 .ret))⟩
def f62 : FFn := ⟨14, [.tmp 4],
 (.seq (.region [⟨true, ⟨(some 4), .mov (.c (.int .i64 (.ofNat 0))), [], none⟩⟩] [] 16)
 (.seq (.region [⟨true, ⟨(some 5), .mov (.c (.int .i64 (.ofNat 1))), [], none⟩⟩] [] 0)
 (.seq (.seq (.region [⟨true, ⟨(some 6), .mov (.t 1), [], none⟩⟩,
   ⟨true, ⟨(some 7), .mov (.c (.int .i64 (.ofNat 0))), [], none⟩⟩] [] 2)
 (.block 0 (.loop (.seq (.region [⟨true, ⟨(some 8), .bin .lss (.t 7) (.t 6), [], none⟩⟩] [] 0)
 (.seq (.cond (.t 8)
  .skip
  (.exit 0))
 (.seq (.block 1 (.region [⟨true, ⟨(some 9), .mov (.t 5), [], none⟩⟩,
   ⟨true, ⟨(some 10), .mov (.t 0), [], none⟩⟩,
   ⟨true, ⟨(some 11), .bin .mul (.t 9) (.t 10), [0, 1], none⟩⟩,
   ⟨false, ⟨(some 5), .mov (.t 11), [2, 0, 1, 2], none⟩⟩] [] 3840))
 (.region [⟨true, ⟨(some 12), .bin .add (.t 7) (.c (.int .i64 (.ofNat 1))), [], none⟩⟩,
   ⟨false, ⟨(some 7), .mov (.t 12), [0], none⟩⟩] [] 4096)))))))
 (.seq (.region [⟨true, ⟨(some 13), .mov (.t 5), [], none⟩⟩,
   ⟨true, ⟨(some 4), .mov (.t 13), [0, 0], none⟩⟩] [] 8417)
 .ret))))⟩
def f67 : FFn := ⟨29, [.tmp 2],
 (.seq (.region [⟨true, ⟨(some 1), .box .dyn (.t 0), [], none⟩⟩,
   ⟨true, ⟨(some 2), .mov (.c (.int .i64 (.ofNat 0))), [], none⟩⟩] [] 5)
 (.seq (.seq (.region [⟨true, ⟨(some 5), .faddr 0 (.t 1), [], none⟩⟩,
   ⟨true, ⟨(some 6), .load none (.t 5), [0], none⟩⟩,
   ⟨true, ⟨(some 7), .call .heap (.f 132) [(.t 6), (.c (.int .i64 (.ofNat 32)))], [1], none⟩⟩,
   ⟨true, ⟨(some 3), .mov (.t 7), [2, 2, 0, 1, 2], none⟩⟩] [] 224)
 (.seq (.region [⟨true, ⟨(some 8), .mov (.t 3), [], none⟩⟩,
   ⟨true, ⟨(some 9), .bin .neq (.t 8) (.c (.int .i64 (.ofNat 0))), [0], none⟩⟩] [] 256)
 (.cond (.t 9)
  (.seq (.region [⟨true, ⟨(some 10), .mov (.t 3), [], none⟩⟩,
    ⟨true, ⟨(some 2), .mov (.t 10), [0, 0], none⟩⟩] [] 1546)
  .ret)
  .skip)))
 (.seq (.block 0 (.seq (.region [⟨true, ⟨(some 12), .faddr 1 (.t 1), [], none⟩⟩,
   ⟨true, ⟨(some 13), .load none (.t 12), [0], none⟩⟩,
   ⟨true, ⟨(some 14), .bin .lss (.t 13) (.c (.int .i64 (.ofNat 0))), [1], none⟩⟩,
   ⟨true, ⟨(some 11), .mov (.t 14), [2], none⟩⟩] [] 29196)
 (.cond (.t 11)
  (.seq (.region [⟨true, ⟨(some 2), .mov (.c (.int .i64 (.ofNat 2))), [], none⟩⟩] [] 2050)
  .ret)
  (.seq (.region [⟨true, ⟨(some 16), .faddr 1 (.t 1), [], none⟩⟩,
    ⟨true, ⟨(some 17), .load none (.t 16), [0], none⟩⟩,
    ⟨true, ⟨(some 18), .bin .gtr (.t 17) (.c (.int .i64 (.ofNat 4096))), [1], none⟩⟩,
    ⟨true, ⟨(some 15), .mov (.t 18), [2], none⟩⟩] [] 460800)
  (.cond (.t 15)
   (.seq (.region [⟨true, ⟨(some 2), .mov (.c (.int .i64 (.ofNat 3))), [], none⟩⟩] [] 32770)
   .ret)
   .skip)))))
 (.seq (.seq (.region [⟨true, ⟨(some 19), .faddr 2 (.t 1), [], none⟩⟩,
   ⟨true, ⟨(some 20), .load none (.t 19), [0], none⟩⟩,
   ⟨true, ⟨(some 21), .faddr 1 (.t 1), [], none⟩⟩,
   ⟨true, ⟨(some 22), .load none (.t 21), [2], none⟩⟩,
   ⟨true, ⟨(some 23), .call .heap (.f 132) [(.t 20), (.t 22)], [1, 3], none⟩⟩,
   ⟨true, ⟨(some 4), .mov (.t 23), [4, 4, 0, 1, 2, 3, 4], none⟩⟩] [] 16285700)
 (.seq (.region [⟨true, ⟨(some 24), .mov (.t 4), [], none⟩⟩,
   ⟨true, ⟨(some 25), .bin .neq (.t 24) (.c (.int .i64 (.ofNat 0))), [0], none⟩⟩] [] 16777216)
 (.cond (.t 25)
  (.seq (.region [⟨true, ⟨(some 26), .mov (.t 4), [], none⟩⟩,
    ⟨true, ⟨(some 2), .mov (.t 26), [0, 0], none⟩⟩] [] 100663314)
  .ret)
  .skip)))
 (.seq (.region [⟨true, ⟨(some 27), .load (some 4) (.t 1), [], none⟩⟩,
   ⟨true, ⟨(some 28), .call .heap (.f 133) [(.t 27)], [0], none⟩⟩,
   ⟨false, ⟨(some 2), .mov (.t 28), [1, 1, 0, 1], none⟩⟩] [] 436207634)
 .ret)))))⟩
def f71 : FFn := ⟨26, [.tmp 4],
 (.seq (.region [⟨true, ⟨(some 4), .mov (.c (.bool false)), [], none⟩⟩] [] 16)
 (.seq (.seq (.region [⟨true, ⟨(some 6), .mov (.t 0), [], none⟩⟩,
   ⟨true, ⟨(some 7), .len 1 (.t 6), [0], none⟩⟩,
   ⟨true, ⟨(some 8), .mov (.t 1), [], none⟩⟩,
   ⟨true, ⟨(some 9), .len 1 (.t 8), [2], none⟩⟩,
   ⟨true, ⟨(some 10), .bin .neq (.t 7) (.t 9), [1, 3], none⟩⟩] [] 960)
 (.cond (.t 10)
  (.seq (.region [⟨true, ⟨(some 4), .mov (.c (.bool false)), [], none⟩⟩] [] 1027)
  .ret)
  .skip))
 (.seq (.seq (.region [⟨true, ⟨(some 11), .mov (.t 0), [], none⟩⟩,
   ⟨true, ⟨(some 12), .len 1 (.t 11), [0], none⟩⟩,
   ⟨true, ⟨(some 13), .mov (.c (.int .i64 (.ofNat 0))), [], none⟩⟩] [] 3088)
 (.block 0 (.loop (.seq (.region [⟨true, ⟨(some 14), .bin .lss (.t 13) (.t 12), [], none⟩⟩] [] 0)
 (.seq (.cond (.t 14)
  .skip
  (.exit 0))
 (.seq (.block 1 (.seq (.region [⟨true, ⟨(some 15), .mov (.t 13), [], none⟩⟩,
   ⟨true, ⟨(some 5), .mov (.t 15), [0, 0], none⟩⟩] [] 49152)
 (.seq (.region [⟨true, ⟨(some 16), .mov (.t 0), [], none⟩⟩,
   ⟨true, ⟨(some 17), .mov (.t 5), [], none⟩⟩,
   ⟨true, ⟨(some 18), .iaddr none 1 (.t 16) (.t 17), [0, 1], none⟩⟩,
   ⟨true, ⟨(some 19), .load none (.t 18), [2], none⟩⟩,
   ⟨true, ⟨(some 20), .mov (.t 1), [], none⟩⟩,
   ⟨true, ⟨(some 21), .mov (.t 5), [], none⟩⟩,
   ⟨true, ⟨(some 22), .iaddr none 1 (.t 20) (.t 21), [4, 5], none⟩⟩,
   ⟨true, ⟨(some 23), .load none (.t 22), [6], none⟩⟩,
   ⟨true, ⟨(some 24), .bin .neq (.t 19) (.t 23), [3, 7], none⟩⟩] [] 16711712)
 (.cond (.t 24)
  (.seq (.region [⟨true, ⟨(some 4), .mov (.c (.bool false)), [], none⟩⟩] [] 16789507)
  .ret)
  .skip))))
 (.region [⟨true, ⟨(some 25), .bin .add (.t 13) (.c (.int .i64 (.ofNat 1))), [], none⟩⟩,
   ⟨false, ⟨(some 13), .mov (.t 25), [0], none⟩⟩] [] 50331664)))))))
 (.seq (.region [⟨true, ⟨(some 4), .mov (.c (.bool true)), [], none⟩⟩] [] 12291)
 .ret))))⟩
def f76 : FFn := ⟨8, [.tmp 2],
 (.seq (.region [⟨true, ⟨(some 2), .mov (.c .nilsl), [], none⟩⟩] [] 4)
 (.seq (.seq (.region [⟨true, ⟨(some 3), .mov (.t 0), [], none⟩⟩,
   ⟨true, ⟨(some 4), .eq (.nil 2) false (.t 3) (.c .nilsl), [0], none⟩⟩] [] 8)
 (.cond (.t 4)
  (.seq (.region [⟨true, ⟨(some 2), .mov (.c .nilsl), [], none⟩⟩] [] 17)
  .ret)
  .skip))
 (.seq (.region [⟨true, ⟨(some 5), .bslice false .dyn 1 0 [] [], [], none⟩⟩,
   ⟨true, ⟨(some 6), .mov (.t 0), [], none⟩⟩,
   ⟨true, ⟨(some 7), .append .dyn 1 8 (.t 5) (.t 6), [0, 1], none⟩⟩,
   ⟨false, ⟨(some 2), .mov (.t 7), [2, 2, 0, 1, 2], none⟩⟩] [] 241)
 .ret)))⟩
def f88 : FFn := ⟨15, [.tmp 2, .tmp 3, .tmp 4],
 (.seq (.region [⟨true, ⟨(some 2), .mov (.c (.int .i64 (.ofNat 0))), [], none⟩⟩,
   ⟨true, ⟨(some 3), .mov (.c (.int .i64 (.ofNat 0))), [0], none⟩⟩,
   ⟨true, ⟨(some 4), .mov (.c (.int .i64 (.ofNat 0))), [1], none⟩⟩] [] 28)
 (.seq (.seq (.region [⟨true, ⟨(some 5), .mov (.t 0), [], none⟩⟩] [] 1)
 (.block 0 (.seq (.region [⟨true, ⟨(some 7), .bin .eql (.t 5) (.c (.int .i64 (.ofNat 1))), [], none⟩⟩,
   ⟨true, ⟨(some 6), .mov (.t 7), [0], none⟩⟩] [] 128)
 (.cond (.t 6)
  (.seq (.region [⟨true, ⟨(some 2), .mov (.c (.int .i64 (.ofNat 1))), [], none⟩⟩,
    ⟨true, ⟨(some 3), .mov (.c (.int .i64 (.ofNat 8))), [0, 0], none⟩⟩,
    ⟨true, ⟨(some 4), .mov (.c (.int .i64 (.ofNat 0))), [1, 0, 1], none⟩⟩] [] 96)
  .ret)
  (.seq (.seq (.region [⟨true, ⟨(some 9), .bin .eql (.t 5) (.c (.int .i64 (.ofNat 2))), [], none⟩⟩,
    ⟨true, ⟨(some 8), .mov (.t 9), [0], none⟩⟩] [] 576)
  (.cond (.t 8)
   .skip
   (.region [⟨true, ⟨(some 10), .bin .eql (.t 5) (.c (.int .i64 (.ofNat 5))), [], none⟩⟩,
     ⟨false, ⟨(some 8), .mov (.t 10), [0], none⟩⟩] [] 1024)))
  (.cond (.t 8)
   (.seq (.region [⟨true, ⟨(some 2), .mov (.c (.int .i64 (.ofNat 2))), [], none⟩⟩,
     ⟨true, ⟨(some 3), .mov (.c (.int .i64 (.ofNat 6))), [0, 0], none⟩⟩,
     ⟨true, ⟨(some 4), .mov (.c (.int .i64 (.ofNat 0))), [1, 0, 1], none⟩⟩] [] 288)
   .ret)
   (.seq (.region [⟨true, ⟨(some 12), .bin .eql (.t 5) (.c (.int .i64 (.ofNat 3))), [], none⟩⟩,
     ⟨true, ⟨(some 11), .mov (.t 12), [0], none⟩⟩] [] 4352)
   (.cond (.t 11)
    (.seq (.region [⟨true, ⟨(some 2), .mov (.c (.int .i64 (.ofNat 2))), [], none⟩⟩,
      ⟨true, ⟨(some 3), .mov (.c (.int .i64 (.ofNat 4))), [0, 0], none⟩⟩,
      ⟨true, ⟨(some 4), .mov (.c (.int .i64 (.ofNat 0))), [1, 0, 1], none⟩⟩] [] 2080)
    .ret)
    (.seq (.region [⟨true, ⟨(some 14), .bin .eql (.t 5) (.c (.int .i64 (.ofNat 4))), [], none⟩⟩,
      ⟨true, ⟨(some 13), .mov (.t 14), [0], none⟩⟩] [] 18464)
    (.cond (.t 13)
     (.seq (.region [⟨true, ⟨(some 2), .mov (.c (.int .i64 (.ofNat 2))), [], none⟩⟩,
       ⟨true, ⟨(some 3), .mov (.c (.int .i64 (.ofNat 8))), [0, 0], none⟩⟩,
       ⟨true, ⟨(some 4), .mov (.c (.int .i64 (.ofNat 0))), [1, 0, 1], none⟩⟩] [] 8192)
     .ret)
     .skip))))))))))
 (.seq (.region [⟨false, ⟨(some 2), .mov (.c (.int .i64 (.ofNat 0))), [], none⟩⟩,
   ⟨false, ⟨(some 3), .mov (.c (.int .i64 (.ofNat 0))), [0, 0], none⟩⟩,
   ⟨false, ⟨(some 4), .mov (.c (.int .i64 (.ofNat 11))), [1, 0, 1], none⟩⟩] [] 8192)
 .ret)))⟩
def f89 : FFn := ⟨36, [.tmp 4],
 (.seq (.region [⟨true, ⟨(some 4), .mov (.c .nilsl), [], none⟩⟩] [] 16)
 (.seq (.region [⟨true, ⟨(some 5), .mov (.c .nilsl), [], none⟩⟩] [] 0)
 (.seq (.seq (.region [⟨true, ⟨(some 9), .mov (.t 0), [], none⟩⟩,
   ⟨true, ⟨(some 10), .mov (.c (.int .i64 (.ofNat 0))), [], none⟩⟩] [] 1)
 (.block 0 (.loop (.seq (.region [⟨true, ⟨(some 11), .bin .lss (.t 10) (.t 9), [], none⟩⟩] [] 0)
 (.seq (.cond (.t 11)
  .skip
  (.exit 0))
 (.seq (.block 1 (.seq (.region [⟨true, ⟨(some 12), .mov (.t 10), [], none⟩⟩,
   ⟨true, ⟨(some 6), .mov (.t 12), [0, 0], none⟩⟩] [] 6144)
 (.seq (.region [⟨true, ⟨(some 13), .mov (.t 1), [], none⟩⟩,
   ⟨true, ⟨(some 14), .len 1 (.t 13), [0], none⟩⟩,
   ⟨true, ⟨(some 15), .mov (.c (.int .i64 (.ofNat 0))), [], none⟩⟩] [] 0)
 (.block 2 (.loop (.seq (.region [⟨true, ⟨(some 16), .bin .lss (.t 15) (.t 14), [], none⟩⟩] [] 0)
 (.seq (.cond (.t 16)
  .skip
  (.exit 2))
 (.seq (.block 3 (.seq (.region [⟨true, ⟨(some 17), .mov (.t 15), [], none⟩⟩,
   ⟨true, ⟨(some 18), .iaddr none 1 (.t 13) (.t 15), [], none⟩⟩,
   ⟨true, ⟨(some 19), .load none (.t 18), [1], none⟩⟩,
   ⟨true, ⟨(some 7), .mov (.t 17), [0, 0, 1, 2], none⟩⟩,
   ⟨true, ⟨(some 8), .mov (.t 19), [2, 3, 0, 1, 2, 3], none⟩⟩] [] 983040)
 (.region [⟨true, ⟨(some 20), .mov (.t 5), [], none⟩⟩,
   ⟨true, ⟨(some 21), .mov (.t 8), [], none⟩⟩,
   ⟨true, ⟨(some 22), .mov (.t 6), [], none⟩⟩,
   ⟨true, ⟨(some 23), .call .heap (.f 91) [(.t 22)], [2], none⟩⟩,
   ⟨true, ⟨(some 24), .bin .add (.t 21) (.t 23), [1, 3], none⟩⟩,
   ⟨true, ⟨(some 25), .mov (.t 7), [], none⟩⟩,
   ⟨true, ⟨(some 26), .mov (.t 1), [], none⟩⟩,
   ⟨true, ⟨(some 27), .len 1 (.t 26), [6], none⟩⟩,
   ⟨true, ⟨(some 28), .bin .sub (.t 27) (.c (.int .i64 (.ofNat 1))), [7], none⟩⟩,
   ⟨true, ⟨(some 29), .bin .lss (.t 25) (.t 28), [5, 8], none⟩⟩,
   ⟨true, ⟨(some 30), .build [(.str []), (.bool false), (.bool false), (.bool false), (.int .i64 (.ofNat 0))] [(0, 1, (.t 24)), (1, 1, (.t 29)), (2, 1, (.c (.bool true)))], [4, 9], none⟩⟩,
   ⟨true, ⟨(some 31), .bslice false .dyn 5 1 [(.str []), (.bool false), (.bool false), (.bool false), (.int .i64 (.ofNat 0))] [(0, 5, (.t 30))], [10], none⟩⟩,
   ⟨true, ⟨(some 32), .append .dyn 5 32 (.t 20) (.t 31), [0, 11, 3], none⟩⟩,
   ⟨false, ⟨(some 5), .mov (.t 32), [12, 12, 0, 1, 2, 3, 4, 5, 6, 7, 8, 9, 10, 11, 12], none⟩⟩] [] 8588886400)))
 (.region [⟨true, ⟨(some 33), .bin .add (.t 15) (.c (.int .i64 (.ofNat 1))), [], none⟩⟩,
   ⟨false, ⟨(some 15), .mov (.t 33), [0], none⟩⟩] [] 8589934592)))))))))
 (.region [⟨true, ⟨(some 34), .bin .add (.t 10) (.c (.int .i64 (.ofNat 1))), [], none⟩⟩,
   ⟨false, ⟨(some 10), .mov (.t 34), [0], none⟩⟩] [] 17179926592)))))))
 (.seq (.region [⟨true, ⟨(some 35), .mov (.t 5), [], none⟩⟩,
   ⟨true, ⟨(some 4), .mov (.t 35), [0, 0], none⟩⟩] [] 34359739938)
 .ret))))⟩
def f90 : FFn := ⟨28, [.cell 4 (some 5)],
 (.seq (.region [⟨true, ⟨(some 4), .alloc .dyn (.agg [(.str []), .nilsl, (.int .i64 (.ofNat 0)), .nilsl, .nilsl]), [], none⟩⟩] [] 0)
 (.seq (.region [⟨true, ⟨(some 6), .mov (.t 1), [], none⟩⟩,
   ⟨true, ⟨(some 7), .bin .mul (.c (.int .i64 (.ofNat 2))) (.t 6), [0], none⟩⟩,
   ⟨true, ⟨(some 8), .mov (.t 1), [], none⟩⟩,
   ⟨true, ⟨(some 9), .bin .mul (.c (.int .i64 (.ofNat 2))) (.t 8), [2], none⟩⟩,
   ⟨true, ⟨(some 10), .bin .add (.t 9) (.c (.int .i64 (.ofNat 1))), [3], none⟩⟩,
   ⟨true, ⟨(some 11), .bslice false .dyn 1 2 [(.int .i64 (.ofNat 0)), (.int .i64 (.ofNat 0))] [(0, 1, (.t 7)), (1, 1, (.t 10))], [1, 4], none⟩⟩,
   ⟨true, ⟨(some 12), .bslice false .dyn 1 1 [(.int .i64 (.ofNat 0))] [(0, 1, (.c (.int .i64 (.ofNat 0))))], [], none⟩⟩,
   ⟨true, ⟨(some 13), .mov (.t 1), [], none⟩⟩,
   ⟨true, ⟨(some 14), .bin .mul (.c (.int .i64 (.ofNat 2))) (.t 13), [7], none⟩⟩,
   ⟨true, ⟨(some 15), .build [(.int .i64 (.ofNat 0)), (.int .i64 (.ofNat 0)), (.int .i64 (.ofNat 0))] [(0, 1, (.c (.int .i64 (.ofNat 0)))), (1, 1, (.t 14)), (2, 1, (.c (.int .i64 (.ofNat 1))))], [8], none⟩⟩,
   ⟨true, ⟨(some 16), .mov (.t 1), [], none⟩⟩,
   ⟨true, ⟨(some 17), .bin .mul (.c (.int .i64 (.ofNat 2))) (.t 16), [10], none⟩⟩,
   ⟨true, ⟨(some 18), .bin .add (.t 17) (.c (.int .i64 (.ofNat 1))), [11], none⟩⟩,
   ⟨true, ⟨(some 19), .build [(.int .i64 (.ofNat 0)), (.int .i64 (.ofNat 0)), (.int .i64 (.ofNat 0))] [(0, 1, (.c (.int .i64 (.ofNat 1)))), (1, 1, (.t 18)), (2, 1, (.c (.int .i64 (.ofNat 0))))], [12], none⟩⟩,
   ⟨true, ⟨(some 20), .bslice false .dyn 3 2 [(.int .i64 (.ofNat 0)), (.int .i64 (.ofNat 0)), (.int .i64 (.ofNat 0)), (.int .i64 (.ofNat 0)), (.int .i64 (.ofNat 0)), (.int .i64 (.ofNat 0))] [(0, 3, (.t 15)), (3, 3, (.t 19))], [9, 13], none⟩⟩,
   ⟨true, ⟨(some 21), .build [.nilsl, (.int .i64 (.ofNat 0)), .nilsl, .nilsl] [(0, 1, (.t 11)), (1, 1, (.c (.int .i64 (.ofNat 2)))), (2, 1, (.t 12)), (3, 1, (.t 20))], [5, 6, 14], none⟩⟩,
   ⟨true, ⟨(some 5), .alloc .dyn (.agg [.nilsl, (.int .i64 (.ofNat 0)), .nilsl, .nilsl]), [], none⟩⟩,
   ⟨false, ⟨none, .store 4 (.t 5) (.t 21), [16, 15, 0, 1, 2, 3, 4, 5, 6, 7, 8, 9, 10, 11, 12, 13, 14, 15, 16], none⟩⟩] [] 4194240)
 (.seq (.region [⟨true, ⟨(some 22), .mov (.t 0), [], none⟩⟩,
   ⟨true, ⟨(some 23), .mov (.t 1), [], none⟩⟩,
   ⟨true, ⟨(some 24), .call .pure (.f 91) [(.t 23)], [1], none⟩⟩,
   ⟨true, ⟨(some 25), .bin .add (.t 22) (.t 24), [0, 2], none⟩⟩,
   ⟨true, ⟨(some 26), .load (some 4) (.t 5), [], none⟩⟩,
   ⟨true, ⟨(some 27), .build [(.str []), .nilsl, (.int .i64 (.ofNat 0)), .nilsl, .nilsl] [(0, 1, (.t 25)), (1, 4, (.t 26))], [3, 4], none⟩⟩,
   ⟨false, ⟨none, .store 5 (.t 4) (.t 27), [5, 2, 0, 1, 2, 3, 4, 5], none⟩⟩] [] 264241187)
 .ret)))⟩
def f91 : FFn := ⟨5, [.tmp 2],
 (.seq (.region [⟨true, ⟨(some 2), .mov (.c (.str [])), [], none⟩⟩] [] 4)
 (.seq (.region [⟨true, ⟨(some 3), .mov (.t 0), [], none⟩⟩,
   ⟨true, ⟨(some 4), .call .heap (.f 156) [(.t 3)], [0], none⟩⟩,
   ⟨true, ⟨(some 2), .mov (.t 4), [1, 1, 0, 1], none⟩⟩] [] 25)
 .ret))⟩
def f92 : FFn := ⟨11, [],
 (.seq (.region [⟨true, ⟨(some 3), .mov (.t 0), [], none⟩⟩,
   ⟨true, ⟨(some 4), .len 1 (.t 3), [0], none⟩⟩,
   ⟨true, ⟨(some 2), .mov (.t 4), [1, 0, 1], none⟩⟩] [] 24)
 (.region [⟨true, ⟨(some 5), .mov (.t 0), [], none⟩⟩,
   ⟨true, ⟨(some 6), .mov (.t 2), [], none⟩⟩,
   ⟨true, ⟨(some 7), .mov (.t 2), [], none⟩⟩,
   ⟨true, ⟨(some 8), .conv .u64 (.t 7), [2], none⟩⟩,
   ⟨true, ⟨(some 9), .call .heap (.f 144) [(.t 8)], [3], none⟩⟩,
   ⟨true, ⟨(some 10), .call .heap (.f 157) [(.t 5), (.c (.int .i64 (.ofNat 0))), (.t 6), (.t 9)], [0, 1, 4, 4], none⟩⟩] [] 2021))⟩
def f93 : FFn := ⟨26, [.tmp 4],
 (.seq (.region [⟨true, ⟨(some 4), .mov (.c (.bool false)), [], none⟩⟩] [] 16)
 (.seq (.seq (.region [⟨true, ⟨(some 6), .mov (.t 0), [], none⟩⟩,
   ⟨true, ⟨(some 7), .len 1 (.t 6), [0], none⟩⟩,
   ⟨true, ⟨(some 8), .mov (.t 1), [], none⟩⟩,
   ⟨true, ⟨(some 9), .len 1 (.t 8), [2], none⟩⟩,
   ⟨true, ⟨(some 10), .bin .neq (.t 7) (.t 9), [1, 3], none⟩⟩] [] 960)
 (.cond (.t 10)
  (.seq (.region [⟨true, ⟨(some 4), .mov (.c (.bool false)), [], none⟩⟩] [] 1027)
  .ret)
  .skip))
 (.seq (.seq (.region [⟨true, ⟨(some 11), .mov (.t 0), [], none⟩⟩,
   ⟨true, ⟨(some 12), .len 1 (.t 11), [0], none⟩⟩,
   ⟨true, ⟨(some 13), .mov (.c (.int .i64 (.ofNat 0))), [], none⟩⟩] [] 3088)
 (.block 0 (.loop (.seq (.region [⟨true, ⟨(some 14), .bin .lss (.t 13) (.t 12), [], none⟩⟩] [] 0)
 (.seq (.cond (.t 14)
  .skip
  (.exit 0))
 (.seq (.block 1 (.seq (.region [⟨true, ⟨(some 15), .mov (.t 13), [], none⟩⟩,
   ⟨true, ⟨(some 5), .mov (.t 15), [0, 0], none⟩⟩] [] 49152)
 (.seq (.region [⟨true, ⟨(some 16), .mov (.t 0), [], none⟩⟩,
   ⟨true, ⟨(some 17), .mov (.t 5), [], none⟩⟩,
   ⟨true, ⟨(some 18), .iaddr none 3 (.t 16) (.t 17), [0, 1], none⟩⟩,
   ⟨true, ⟨(some 19), .load (some 3) (.t 18), [2], none⟩⟩,
   ⟨true, ⟨(some 20), .mov (.t 1), [], none⟩⟩,
   ⟨true, ⟨(some 21), .mov (.t 5), [], none⟩⟩,
   ⟨true, ⟨(some 22), .iaddr none 3 (.t 20) (.t 21), [4, 5], none⟩⟩,
   ⟨true, ⟨(some 23), .load (some 3) (.t 22), [6], none⟩⟩,
   ⟨true, ⟨(some 24), .eq (.flat true [.i, .i, .i]) true (.t 19) (.t 23), [3, 7], none⟩⟩] [] 16711712)
 (.cond (.t 24)
  (.seq (.region [⟨true, ⟨(some 4), .mov (.c (.bool false)), [], none⟩⟩] [] 16789507)
  .ret)
  .skip))))
 (.region [⟨true, ⟨(some 25), .bin .add (.t 13) (.c (.int .i64 (.ofNat 1))), [], none⟩⟩,
   ⟨false, ⟨(some 13), .mov (.t 25), [0], none⟩⟩] [] 50331664)))))))
 (.seq (.region [⟨true, ⟨(some 4), .mov (.c (.bool true)), [], none⟩⟩] [] 12291)
 .ret))))⟩
def f94 : FFn := ⟨15, [.cell 4 (some 4)],
 (.seq (.region [⟨true, ⟨(some 4), .alloc .dyn (.agg [.nilsl, (.int .i64 (.ofNat 0)), .nilsl, .nilsl]), [], none⟩⟩] [] 0)
 (.seq (.region [⟨true, ⟨(some 5), .mov (.t 0), [], none⟩⟩,
   ⟨true, ⟨(some 6), .mov (.t 1), [], none⟩⟩,
   ⟨true, ⟨(some 7), .bslice false .dyn 1 2 [(.int .i64 (.ofNat 0)), (.int .i64 (.ofNat 0))] [(0, 1, (.t 5)), (1, 1, (.t 6))], [0, 1], none⟩⟩,
   ⟨true, ⟨(some 8), .bslice false .dyn 1 1 [(.int .i64 (.ofNat 0))] [(0, 1, (.c (.int .i64 (.ofNat 0))))], [], none⟩⟩,
   ⟨true, ⟨(some 9), .mov (.t 0), [], none⟩⟩,
   ⟨true, ⟨(some 10), .build [(.int .i64 (.ofNat 0)), (.int .i64 (.ofNat 0)), (.int .i64 (.ofNat 0))] [(0, 1, (.c (.int .i64 (.ofNat 0)))), (1, 1, (.t 9)), (2, 1, (.c (.int .i64 (.ofNat 1))))], [4], none⟩⟩,
   ⟨true, ⟨(some 11), .mov (.t 1), [], none⟩⟩,
   ⟨true, ⟨(some 12), .build [(.int .i64 (.ofNat 0)), (.int .i64 (.ofNat 0)), (.int .i64 (.ofNat 0))] [(0, 1, (.c (.int .i64 (.ofNat 1)))), (1, 1, (.t 11)), (2, 1, (.c (.int .i64 (.ofNat 0))))], [6], none⟩⟩,
   ⟨true, ⟨(some 13), .bslice false .dyn 3 2 [(.int .i64 (.ofNat 0)), (.int .i64 (.ofNat 0)), (.int .i64 (.ofNat 0)), (.int .i64 (.ofNat 0)), (.int .i64 (.ofNat 0)), (.int .i64 (.ofNat 0))] [(0, 3, (.t 10)), (3, 3, (.t 12))], [5, 7], none⟩⟩,
   ⟨true, ⟨(some 14), .build [.nilsl, (.int .i64 (.ofNat 0)), .nilsl, .nilsl] [(0, 1, (.t 7)), (1, 1, (.c (.int .i64 (.ofNat 2)))), (2, 1, (.t 8)), (3, 1, (.t 13))], [2, 3, 8], none⟩⟩,
   ⟨false, ⟨none, .store 4 (.t 4) (.t 14), [9, 0, 1, 2, 3, 4, 5, 6, 7, 8, 9], none⟩⟩] [] 32739)
 .ret))⟩
def f95 : FFn := ⟨84, [.cell 4 (some 4)],
 (.seq (.region [⟨true, ⟨(some 4), .alloc .dyn (.agg [.nilsl, (.int .i64 (.ofNat 0)), .nilsl, .nilsl]), [], none⟩⟩] [] 0)
 (.seq (.region [⟨true, ⟨(some 10), .bslice false .dyn 1 1 [(.int .i64 (.ofNat 0))] [(0, 1, (.c (.int .i64 (.ofNat 0))))], [], none⟩⟩,
   ⟨true, ⟨(some 11), .build [.nilsl, (.int .i64 (.ofNat 0)), .nilsl, .nilsl] [(1, 1, (.c (.int .i64 (.ofNat 2)))), (2, 1, (.t 10))], [0], none⟩⟩,
   ⟨true, ⟨(some 5), .alloc .dyn (.agg [.nilsl, (.int .i64 (.ofNat 0)), .nilsl, .nilsl]), [], none⟩⟩,
   ⟨false, ⟨none, .store 4 (.t 5) (.t 11), [2, 1, 0, 1, 2], none⟩⟩] [] 3072)
 (.seq (.seq (.region [⟨true, ⟨(some 6), .mov (.c (.int .i64 (.ofNat 0))), [], none⟩⟩] [] 0)
 (.block 0 (.loop (.seq (.seq (.region [⟨true, ⟨(some 12), .mov (.t 6), [], none⟩⟩,
   ⟨true, ⟨(some 13), .bin .lss (.t 12) (.c (.int .i64 (.ofNat 12))), [0], none⟩⟩] [] 4096)
 (.cond (.t 13)
  .skip
  (.exit 0)))
 (.seq (.block 1 (.seq (.region [⟨true, ⟨(some 16), .mov (.t 6), [], none⟩⟩,
   ⟨true, ⟨(some 17), .mov (.t 0), [], none⟩⟩,
   ⟨true, ⟨(some 18), .bin .mul (.c (.int .i64 (.ofNat 3))) (.t 17), [1], none⟩⟩,
   ⟨true, ⟨(some 19), .bin .eql (.t 16) (.t 18), [0, 2], none⟩⟩,
   ⟨true, ⟨(some 20), .mov (.t 19), [3], none⟩⟩,
   ⟨false, ⟨(some 21), .mov (.t 6), [4], (some (20, false))⟩⟩,
   ⟨false, ⟨(some 22), .mov (.t 0), [4], (some (20, false))⟩⟩,
   ⟨false, ⟨(some 23), .bin .mul (.c (.int .i64 (.ofNat 3))) (.t 22), [6, 4], (some (20, false))⟩⟩,
   ⟨false, ⟨(some 24), .bin .add (.t 23) (.c (.int .i64 (.ofNat 2))), [7, 4], (some (20, false))⟩⟩,
   ⟨false, ⟨(some 25), .bin .eql (.t 21) (.t 24), [5, 8, 4], (some (20, false))⟩⟩,
   ⟨true, ⟨(some 26), .pick (.t 20) (.c (.bool true)) (.t 25), [4, 9], none⟩⟩,
   ⟨true, ⟨(some 27), .mov (.t 26), [10, 4], none⟩⟩,
   ⟨false, ⟨(some 28), .mov (.t 6), [11], (some (27, false))⟩⟩,
   ⟨false, ⟨(some 29), .mov (.t 1), [11], (some (27, false))⟩⟩,
   ⟨false, ⟨(some 30), .bin .mul (.c (.int .i64 (.ofNat 3))) (.t 29), [13, 11], (some (27, false))⟩⟩,
   ⟨false, ⟨(some 31), .bin .add (.t 30) (.c (.int .i64 (.ofNat 1))), [14, 11], (some (27, false))⟩⟩,
   ⟨false, ⟨(some 32), .bin .eql (.t 28) (.t 31), [12, 15, 11], (some (27, false))⟩⟩,
   ⟨true, ⟨(some 33), .pick (.t 27) (.c (.bool true)) (.t 32), [11, 16], none⟩⟩,
   ⟨true, ⟨(some 34), .mov (.t 33), [17, 11], none⟩⟩,
   ⟨false, ⟨(some 35), .mov (.t 6), [18], (some (34, false))⟩⟩,
   ⟨false, ⟨(some 36), .mov (.t 1), [18], (some (34, false))⟩⟩,
   ⟨false, ⟨(some 37), .bin .mul (.c (.int .i64 (.ofNat 3))) (.t 36), [20, 18], (some (34, false))⟩⟩,
   ⟨false, ⟨(some 38), .bin .add (.t 37) (.c (.int .i64 (.ofNat 2))), [21, 18], (some (34, false))⟩⟩,
   ⟨false, ⟨(some 39), .bin .eql (.t 35) (.t 38), [19, 22, 18], (some (34, false))⟩⟩,
   ⟨true, ⟨(some 40), .pick (.t 34) (.c (.bool true)) (.t 39), [18, 23], none⟩⟩] [] 25973170176)
 (.cond (.t 40)
  (.region [⟨true, ⟨(some 41), .faddr 0 (.t 5), [], none⟩⟩,
    ⟨true, ⟨(some 42), .load none (.t 41), [0], none⟩⟩,
    ⟨true, ⟨(some 43), .mov (.t 6), [], none⟩⟩,
    ⟨true, ⟨(some 44), .bslice false .dyn 1 1 [(.int .i64 (.ofNat 0))] [(0, 1, (.t 43))], [2], none⟩⟩,
    ⟨true, ⟨(some 45), .append .dyn 1 8 (.t 42) (.t 44), [1, 3], none⟩⟩,
    ⟨true, ⟨(some 46), .faddr 0 (.t 5), [0, 1, 2, 3, 4], none⟩⟩,
    ⟨false, ⟨none, .store 1 (.t 46) (.t 45), [5, 4, 4, 0, 1, 2, 3, 4], none⟩⟩] [] 139637976727552)
  .skip)))
 (.region [⟨true, ⟨(some 14), .mov (.t 6), [], none⟩⟩,
   ⟨true, ⟨(some 15), .bin .add (.t 14) (.c (.int .i64 (.ofNat 1))), [0], none⟩⟩,
   ⟨false, ⟨(some 6), .mov (.t 15), [1, 0, 1], none⟩⟩] [] 1099511676928))))))
 (.seq (.seq (.region [⟨true, ⟨(some 7), .mov (.c (.int .i64 (.ofNat 0))), [], none⟩⟩] [] 1073538400323)
 (.block 2 (.loop (.seq (.seq (.region [⟨true, ⟨(some 47), .mov (.t 7), [], none⟩⟩,
   ⟨true, ⟨(some 48), .bin .lss (.t 47) (.c (.int .i64 (.ofNat 2))), [0], none⟩⟩] [] 140737488355328)
 (.cond (.t 48)
  .skip
  (.exit 2)))
 (.seq (.block 3 (.seq (.region [⟨true, ⟨(some 8), .mov (.c (.int .i64 (.ofNat 0))), [], none⟩⟩] [] 281474976710656)
 (.block 4 (.loop (.seq (.seq (.region [⟨true, ⟨(some 51), .mov (.t 8), [], none⟩⟩,
   ⟨true, ⟨(some 52), .faddr 0 (.t 5), [], none⟩⟩,
   ⟨true, ⟨(some 53), .load none (.t 52), [1], none⟩⟩,
   ⟨true, ⟨(some 54), .len 1 (.t 53), [2], none⟩⟩,
   ⟨true, ⟨(some 55), .bin .lss (.t 51) (.t 54), [0, 3], none⟩⟩] [] 33776997205278720)
 (.cond (.t 55)
  .skip
  (.exit 4)))
 (.seq (.block 5 (.seq (.region [⟨true, ⟨(some 58), .faddr 0 (.t 5), [], none⟩⟩,
   ⟨true, ⟨(some 59), .load none (.t 58), [0], none⟩⟩,
   ⟨true, ⟨(some 60), .mov (.t 8), [], none⟩⟩,
   ⟨true, ⟨(some 61), .iaddr none 1 (.t 59) (.t 60), [1, 2], none⟩⟩,
   ⟨true, ⟨(some 62), .load none (.t 61), [3], none⟩⟩,
   ⟨true, ⟨(some 63), .bin .rem (.t 62) (.c (.int .i64 (.ofNat 3))), [4], none⟩⟩,
   ⟨true, ⟨(some 64), .bin .eql (.t 63) (.c (.int .i64 (.ofNat 2))), [5], none⟩⟩,
   ⟨true, ⟨(some 9), .mov (.t 64), [6, 0, 1, 2, 3, 4, 5, 6], none⟩⟩] [] 36641286568286355456)
 (.seq (.region [⟨true, ⟨(some 65), .mov (.t 9), [], none⟩⟩,
   ⟨true, ⟨(some 66), .mov (.t 7), [], none⟩⟩,
   ⟨true, ⟨(some 67), .bin .eql (.t 66) (.c (.int .i64 (.ofNat 1))), [1], none⟩⟩,
   ⟨true, ⟨(some 68), .eq (.flat false [.b]) false (.t 65) (.t 67), [0, 2], none⟩⟩] [] 258254417031933723136)
 (.cond (.t 68)
  (.region [⟨true, ⟨(some 69), .faddr 3 (.t 5), [], none⟩⟩,
    ⟨true, ⟨(some 70), .load none (.t 69), [0], none⟩⟩,
    ⟨true, ⟨(some 71), .mov (.t 7), [], none⟩⟩,
    ⟨true, ⟨(some 72), .faddr 0 (.t 5), [], none⟩⟩,
    ⟨true, ⟨(some 73), .load none (.t 72), [3], none⟩⟩,
    ⟨true, ⟨(some 74), .mov (.t 8), [], none⟩⟩,
    ⟨true, ⟨(some 75), .iaddr none 1 (.t 73) (.t 74), [4, 5], none⟩⟩,
    ⟨true, ⟨(some 76), .load none (.t 75), [6], none⟩⟩,
    ⟨true, ⟨(some 77), .mov (.t 7), [], none⟩⟩,
    ⟨true, ⟨(some 78), .bin .sub (.c (.int .i64 (.ofNat 1))) (.t 77), [8], none⟩⟩,
    ⟨true, ⟨(some 79), .build [(.int .i64 (.ofNat 0)), (.int .i64 (.ofNat 0)), (.int .i64 (.ofNat 0))] [(0, 1, (.t 71)), (1, 1, (.t 76)), (2, 1, (.t 78))], [2, 7, 9], none⟩⟩,
    ⟨true, ⟨(some 80), .bslice false .dyn 3 1 [(.int .i64 (.ofNat 0)), (.int .i64 (.ofNat 0)), (.int .i64 (.ofNat 0))] [(0, 3, (.t 79))], [10], none⟩⟩,
    ⟨true, ⟨(some 81), .append .dyn 3 24 (.t 70) (.t 80), [1, 11], none⟩⟩,
    ⟨true, ⟨(some 82), .faddr 3 (.t 5), [0, 1, 2, 3, 4, 5, 6, 7, 8, 9, 10, 11, 12], none⟩⟩,
    ⟨false, ⟨none, .store 1 (.t 82) (.t 81), [13, 12, 12, 0, 1, 2, 3, 4, 5, 6, 7, 8, 9, 10, 11, 12], none⟩⟩] [] 9671111409011854044823552)
  .skip))))
 (.region [⟨true, ⟨(some 56), .mov (.t 8), [], none⟩⟩,
   ⟨true, ⟨(some 57), .bin .add (.t 56) (.c (.int .i64 (.ofNat 1))), [0], none⟩⟩,
   ⟨false, ⟨(some 8), .mov (.t 57), [1, 0, 1], none⟩⟩] [] 295364077961466609664)))))))
 (.region [⟨true, ⟨(some 49), .mov (.t 7), [], none⟩⟩,
   ⟨true, ⟨(some 50), .bin .add (.t 49) (.c (.int .i64 (.ofNat 1))), [0], none⟩⟩,
   ⟨false, ⟨(some 7), .mov (.t 50), [1, 0, 1], none⟩⟩] [] 1688849860264192))))))
 (.seq (.region [⟨true, ⟨(some 83), .load (some 4) (.t 5), [], none⟩⟩,
   ⟨false, ⟨none, .store 4 (.t 4) (.t 83), [0, 0], none⟩⟩] [] 9671406556917033397649568)
 .ret)))))⟩
def f96 : FFn := ⟨55, [.tmp 2],
 (.seq (.region [⟨true, ⟨(some 2), .mov (.c (.bool false)), [], none⟩⟩] [] 4)
 (.seq (.seq (.region [⟨true, ⟨(some 6), .mov (.t 0), [], none⟩⟩,
   ⟨true, ⟨(some 7), .len 0 (.t 6), [0], none⟩⟩,
   ⟨true, ⟨(some 8), .mov (.c (.int .i64 (.ofNat 0))), [], none⟩⟩] [] 64)
 (.block 0 (.loop (.seq (.region [⟨true, ⟨(some 9), .bin .lss (.t 8) (.t 7), [], none⟩⟩] [] 0)
 (.seq (.cond (.t 9)
  .skip
  (.exit 0))
 (.seq (.block 1 (.seq (.region [⟨true, ⟨(some 10), .mov (.t 8), [], none⟩⟩,
   ⟨true, ⟨(some 3), .mov (.t 10), [0, 0], none⟩⟩] [] 1536)
 (.seq (.region [⟨true, ⟨(some 11), .mov (.t 0), [], none⟩⟩,
   ⟨true, ⟨(some 12), .mov (.t 3), [], none⟩⟩,
   ⟨true, ⟨(some 13), .index none (.t 11) (.t 12), [0, 1], none⟩⟩,
   ⟨true, ⟨(some 4), .mov (.t 13), [2, 0, 1, 2], none⟩⟩] [] 14336)
 (.seq (.region [⟨true, ⟨(some 14), .mov (.t 4), [], none⟩⟩,
   ⟨true, ⟨(some 15), .bin .geq (.t 14) (.c (.int .u8 (.ofNat 97))), [0], none⟩⟩,
   ⟨true, ⟨(some 16), .mov (.t 15), [1], none⟩⟩,
   ⟨false, ⟨(some 17), .mov (.t 4), [2], (some (16, true))⟩⟩,
   ⟨false, ⟨(some 18), .bin .leq (.t 17) (.c (.int .u8 (.ofNat 122))), [3, 2], (some (16, true))⟩⟩,
   ⟨true, ⟨(some 19), .pick (.t 16) (.t 18) (.c (.bool false)), [2, 4], none⟩⟩,
   ⟨true, ⟨(some 20), .mov (.t 19), [5, 2], none⟩⟩,
   ⟨false, ⟨(some 21), .mov (.t 4), [6], (some (20, false))⟩⟩,
   ⟨false, ⟨(some 22), .bin .geq (.t 21) (.c (.int .u8 (.ofNat 65))), [7, 6], (some (20, false))⟩⟩,
   ⟨false, ⟨(some 23), .mov (.t 22), [8, 6, 6], (some (20, false))⟩⟩,
   ⟨false, ⟨(some 24), .mov (.t 4), [9], (some (23, true))⟩⟩,
   ⟨false, ⟨(some 25), .bin .leq (.t 24) (.c (.int .u8 (.ofNat 90))), [10, 9], (some (23, true))⟩⟩,
   ⟨false, ⟨(some 26), .pick (.t 23) (.t 25) (.c (.bool false)), [9, 11, 6], (some (20, false))⟩⟩,
   ⟨true, ⟨(some 27), .pick (.t 20) (.c (.bool true)) (.t 26), [6, 12], none⟩⟩,
   ⟨true, ⟨(some 28), .mov (.t 27), [13, 9], none⟩⟩,
   ⟨false, ⟨(some 29), .mov (.t 4), [14], (some (28, false))⟩⟩,
   ⟨false, ⟨(some 30), .bin .eql (.t 29) (.c (.int .u8 (.ofNat 95))), [15, 14], (some (28, false))⟩⟩,
   ⟨true, ⟨(some 31), .pick (.t 28) (.c (.bool true)) (.t 30), [14, 16], none⟩⟩,
   ⟨true, ⟨(some 5), .mov (.t 31), [17, 14, 0, 1, 2, 3, 4, 5, 6, 7, 8, 9, 10, 11, 12, 13, 14, 15, 16, 17], none⟩⟩] [] 2551824384)
 (.seq (.region [⟨true, ⟨(some 32), .mov (.t 5), [], none⟩⟩,
   ⟨true, ⟨(some 33), .un .not (.t 32), [0], none⟩⟩,
   ⟨true, ⟨(some 34), .mov (.t 33), [1], none⟩⟩,
   ⟨false, ⟨(some 35), .mov (.t 3), [2], (some (34, true))⟩⟩,
   ⟨false, ⟨(some 36), .bin .eql (.t 35) (.c (.int .i64 (.ofNat 0))), [3, 2], (some (34, true))⟩⟩,
   ⟨false, ⟨(some 37), .mov (.t 36), [4, 2, 2], (some (34, true))⟩⟩,
   ⟨false, ⟨(some 38), .mov (.t 4), [5], (some (37, false))⟩⟩,
   ⟨false, ⟨(some 39), .bin .lss (.t 38) (.c (.int .u8 (.ofNat 48))), [6, 5], (some (37, false))⟩⟩,
   ⟨false, ⟨(some 40), .pick (.t 37) (.c (.bool true)) (.t 39), [5, 7, 2], (some (34, true))⟩⟩,
   ⟨false, ⟨(some 41), .mov (.t 40), [8, 5, 2], (some (34, true))⟩⟩,
   ⟨false, ⟨(some 42), .mov (.t 4), [9], (some (41, false))⟩⟩,
   ⟨false, ⟨(some 43), .bin .gtr (.t 42) (.c (.int .u8 (.ofNat 57))), [10, 9], (some (41, false))⟩⟩,
   ⟨false, ⟨(some 44), .pick (.t 41) (.c (.bool true)) (.t 43), [9, 11, 2], (some (34, true))⟩⟩,
   ⟨true, ⟨(some 45), .pick (.t 34) (.t 44) (.c (.bool false)), [2, 12], none⟩⟩] [] 30064771128)
 (.cond (.t 45)
  (.seq (.region [⟨true, ⟨(some 2), .mov (.c (.bool false)), [], none⟩⟩] [] 15832934823362945)
  .ret)
  .skip))))))
 (.region [⟨true, ⟨(some 46), .bin .add (.t 8) (.c (.int .i64 (.ofNat 1))), [], none⟩⟩,
   ⟨false, ⟨(some 8), .mov (.t 46), [0], none⟩⟩] [] 105553116266500)))))))
 (.seq (.region [⟨true, ⟨(some 47), .mov (.t 0), [], none⟩⟩,
   ⟨true, ⟨(some 48), .len 0 (.t 47), [0], none⟩⟩,
   ⟨true, ⟨(some 49), .bin .gtr (.t 48) (.c (.int .i64 (.ofNat 0))), [1], none⟩⟩,
   ⟨true, ⟨(some 50), .mov (.t 49), [2], none⟩⟩,
   ⟨false, ⟨(some 51), .mov (.t 0), [3], (some (50, true))⟩⟩,
   ⟨false, ⟨(some 52), .len 0 (.t 51), [4, 3], (some (50, true))⟩⟩,
   ⟨false, ⟨(some 53), .bin .leq (.t 52) (.c (.int .i64 (.ofNat 32))), [5, 3], (some (50, true))⟩⟩,
   ⟨true, ⟨(some 54), .pick (.t 50) (.t 53) (.c (.bool false)), [3, 6], none⟩⟩,
   ⟨true, ⟨(some 2), .mov (.t 54), [7, 3, 0, 1, 2, 3, 4, 5, 6, 7], none⟩⟩] [] 35923211286086017)
 .ret)))⟩
def f97 : FFn := ⟨12, [.tmp 2],
 (.seq (.region [⟨true, ⟨(some 1), .box .dyn (.t 0), [], none⟩⟩,
   ⟨true, ⟨(some 2), .mov (.c (.bool false)), [], none⟩⟩] [] 5)
 (.seq (.region [⟨true, ⟨(some 3), .load (some 4) (.t 1), [], none⟩⟩,
   ⟨true, ⟨(some 4), .call .heap (.f 67) [(.t 3)], [0], none⟩⟩,
   ⟨true, ⟨(some 5), .bin .eql (.t 4) (.c (.int .i64 (.ofNat 0))), [1], none⟩⟩,
   ⟨true, ⟨(some 6), .mov (.t 5), [2, 1], none⟩⟩,
   ⟨true, ⟨(some 7), .load (some 4) (.t 1), [3], (some (6, true))⟩⟩,
   ⟨true, ⟨(some 8), .load (some 4) (.t 1), [3], (some (6, true))⟩⟩,
   ⟨true, ⟨(some 9), .call .pure (.f 158) [(.t 8)], [5, 3, 3], (some (6, true))⟩⟩,
   ⟨true, ⟨(some 10), .call .heap (.f 41) [(.t 7), (.t 9)], [4, 6, 6, 3], (some (6, true))⟩⟩,
   ⟨true, ⟨(some 11), .pick (.t 6) (.t 10) (.c (.bool false)), [3, 7], none⟩⟩,
   ⟨true, ⟨(some 2), .mov (.t 11), [8, 7, 0, 1, 2, 3, 4, 5, 6, 7, 8], none⟩⟩] [] 4090)
 .ret))⟩
def f98 : FFn := ⟨9, [.tmp 4],
 (.seq (.region [⟨true, ⟨(some 4), .mov (.c (.bool false)), [], none⟩⟩] [] 16)
 (.seq (.region [⟨true, ⟨(some 5), .mov (.t 0), [], none⟩⟩,
   ⟨true, ⟨(some 6), .mov (.t 1), [], none⟩⟩,
   ⟨true, ⟨(some 7), .call .heap (.f 159) [(.t 5), (.t 6)], [0, 1], none⟩⟩,
   ⟨true, ⟨(some 8), .bin .geq (.t 7) (.c (.int .i64 (.ofNat 0))), [2], none⟩⟩,
   ⟨true, ⟨(some 4), .mov (.t 8), [3, 2, 0, 1, 2, 3], none⟩⟩] [] 483)
 .ret))⟩
def f99 : FFn := ⟨7, [.tmp 3],
 (.seq (.region [⟨true, ⟨(some 3), .mov (.c (.bool false)), [], none⟩⟩] [] 8)
 (.seq (.region [⟨true, ⟨(some 4), .mov (.t 0), [], none⟩⟩,
   ⟨true, ⟨(some 5), .load none (.t 1), [], none⟩⟩,
   ⟨true, ⟨(some 6), .bin .geq (.t 4) (.t 5), [0, 1], none⟩⟩,
   ⟨true, ⟨(some 3), .mov (.t 6), [2, 0, 1, 2], none⟩⟩] [] 115)
 .ret))⟩
def f100 : FFn := ⟨10, [.tmp 4],
 (.seq (.region [⟨true, ⟨(some 4), .mov (.c (.bool false)), [], none⟩⟩] [] 16)
 (.seq (.region [⟨true, ⟨(some 5), .mov (.t 0), [], none⟩⟩,
   ⟨true, ⟨(some 6), .mov (.t 1), [], none⟩⟩,
   ⟨true, ⟨(some 7), .call .heap (.f 160) [(.t 5), (.t 6)], [0, 1], none⟩⟩,
   ⟨true, ⟨(some 8), .len 1 (.t 7), [2], none⟩⟩,
   ⟨true, ⟨(some 9), .bin .eql (.t 8) (.c (.int .i64 (.ofNat 0))), [3], none⟩⟩,
   ⟨true, ⟨(some 4), .mov (.t 9), [4, 2, 0, 1, 2, 3, 4], none⟩⟩] [] 995)
 .ret))⟩
def f101 : FFn := ⟨74, [.tmp 6],
 (.seq (.region [⟨true, ⟨(some 6), .mov (.c .nilsl), [], none⟩⟩] [] 64)
 (.seq (.region [⟨true, ⟨(some 7), .mov (.c .nilsl), [], none⟩⟩] [] 0)
 (.seq (.block 0 (.loop (.seq (.seq (.region [⟨true, ⟨(some 11), .mov (.t 0), [], none⟩⟩,
   ⟨true, ⟨(some 12), .len 1 (.t 11), [0], none⟩⟩,
   ⟨true, ⟨(some 13), .bin .gtr (.t 12) (.c (.int .i64 (.ofNat 0))), [1], none⟩⟩,
   ⟨true, ⟨(some 14), .mov (.t 13), [2], none⟩⟩,
   ⟨false, ⟨(some 15), .mov (.t 1), [3], (some (14, false))⟩⟩,
   ⟨false, ⟨(some 16), .len 1 (.t 15), [4, 3], (some (14, false))⟩⟩,
   ⟨false, ⟨(some 17), .bin .gtr (.t 16) (.c (.int .i64 (.ofNat 0))), [5, 3], (some (14, false))⟩⟩,
   ⟨true, ⟨(some 18), .pick (.t 14) (.c (.bool true)) (.t 17), [3, 6], none⟩⟩] [] 30720)
 (.cond (.t 18)
  .skip
  (.exit 0)))
 (.block 1 (.seq (.region [⟨true, ⟨(some 19), .mov (.t 0), [], none⟩⟩,
   ⟨true, ⟨(some 20), .len 1 (.t 19), [0], none⟩⟩,
   ⟨true, ⟨(some 21), .bin .gtr (.t 20) (.c (.int .i64 (.ofNat 0))), [1], none⟩⟩,
   ⟨true, ⟨(some 22), .mov (.t 21), [2], none⟩⟩,
   ⟨false, ⟨(some 23), .mov (.t 1), [3], (some (22, true))⟩⟩,
   ⟨false, ⟨(some 24), .len 1 (.t 23), [4, 3], (some (22, true))⟩⟩,
   ⟨false, ⟨(some 25), .bin .eql (.t 24) (.c (.int .i64 (.ofNat 0))), [5, 3], (some (22, true))⟩⟩,
   ⟨false, ⟨(some 26), .mov (.t 25), [6, 3, 3], (some (22, true))⟩⟩,
   ⟨false, ⟨(some 27), .mov (.t 0), [7], (some (26, false))⟩⟩,
   ⟨false, ⟨(some 28), .iaddr none 1 (.t 27) (.c (.int .i64 (.ofNat 0))), [8, 7], (some (26, false))⟩⟩,
   ⟨false, ⟨(some 29), .load none (.t 28), [9, 7], (some (26, false))⟩⟩,
   ⟨false, ⟨(some 30), .mov (.t 1), [7], (some (26, false))⟩⟩,
   ⟨false, ⟨(some 31), .iaddr none 1 (.t 30) (.c (.int .i64 (.ofNat 0))), [11, 7], (some (26, false))⟩⟩,
   ⟨false, ⟨(some 32), .load none (.t 31), [12, 7], (some (26, false))⟩⟩,
   ⟨false, ⟨(some 33), .bin .leq (.t 29) (.t 32), [10, 13, 7], (some (26, false))⟩⟩,
   ⟨false, ⟨(some 34), .pick (.t 26) (.c (.bool true)) (.t 33), [7, 14, 3], (some (22, true))⟩⟩,
   ⟨true, ⟨(some 35), .pick (.t 22) (.t 34) (.c (.bool false)), [3, 15], none⟩⟩,
   ⟨true, ⟨(some 8), .mov (.t 35), [16, 7, 0, 1, 2, 3, 4, 5, 6, 7, 8, 9, 10, 11, 12, 13, 14, 15, 16], none⟩⟩] [] 34367864832)
 (.seq (.region [⟨true, ⟨(some 36), .mov (.t 1), [], none⟩⟩,
   ⟨true, ⟨(some 37), .len 1 (.t 36), [0], none⟩⟩,
   ⟨true, ⟨(some 38), .bin .gtr (.t 37) (.c (.int .i64 (.ofNat 0))), [1], none⟩⟩,
   ⟨true, ⟨(some 39), .mov (.t 38), [2], none⟩⟩,
   ⟨false, ⟨(some 40), .mov (.t 0), [3], (some (39, true))⟩⟩,
   ⟨false, ⟨(some 41), .len 1 (.t 40), [4, 3], (some (39, true))⟩⟩,
   ⟨false, ⟨(some 42), .bin .eql (.t 41) (.c (.int .i64 (.ofNat 0))), [5, 3], (some (39, true))⟩⟩,
   ⟨false, ⟨(some 43), .mov (.t 42), [6, 3, 3], (some (39, true))⟩⟩,
   ⟨false, ⟨(some 44), .mov (.t 1), [7], (some (43, false))⟩⟩,
   ⟨false, ⟨(some 45), .iaddr none 1 (.t 44) (.c (.int .i64 (.ofNat 0))), [8, 7], (some (43, false))⟩⟩,
   ⟨false, ⟨(some 46), .load none (.t 45), [9, 7], (some (43, false))⟩⟩,
   ⟨false, ⟨(some 47), .mov (.t 0), [7], (some (43, false))⟩⟩,
   ⟨false, ⟨(some 48), .iaddr none 1 (.t 47) (.c (.int .i64 (.ofNat 0))), [11, 7], (some (43, false))⟩⟩,
   ⟨false, ⟨(some 49), .load none (.t 48), [12, 7], (some (43, false))⟩⟩,
   ⟨false, ⟨(some 50), .bin .leq (.t 46) (.t 49), [10, 13, 7], (some (43, false))⟩⟩,
   ⟨false, ⟨(some 51), .pick (.t 43) (.c (.bool true)) (.t 50), [7, 14, 3], (some (39, true))⟩⟩,
   ⟨true, ⟨(some 52), .pick (.t 39) (.t 51) (.c (.bool false)), [3, 15], none⟩⟩,
   ⟨true, ⟨(some 9), .mov (.t 52), [16, 7, 0, 1, 2, 3, 4, 5, 6, 7, 8, 9, 10, 11, 12, 13, 14, 15, 16], none⟩⟩] [] 4504630419521536)
 (.seq (.region [⟨true, ⟨(some 10), .mov (.c (.int .i64 (.ofNat 0))), [], none⟩⟩] [] 0)
 (.seq (.seq (.region [⟨true, ⟨(some 53), .mov (.t 8), [], none⟩⟩] [] 0)
 (.cond (.t 53)
  (.region [⟨true, ⟨(some 54), .mov (.t 0), [], none⟩⟩,
    ⟨true, ⟨(some 55), .iaddr none 1 (.t 54) (.c (.int .i64 (.ofNat 0))), [0], none⟩⟩,
    ⟨true, ⟨(some 56), .load none (.t 55), [1], none⟩⟩,
    ⟨true, ⟨(some 57), .mov (.t 0), [], none⟩⟩,
    ⟨true, ⟨(some 58), .slice (some 1) (.t 57) (some (.c (.int .i64 (.ofNat 1)))) none none, [3], none⟩⟩,
    ⟨false, ⟨(some 10), .mov (.t 56), [2, 0, 1, 2], none⟩⟩,
    ⟨false, ⟨(some 0), .mov (.t 58), [4, 5, 0, 1, 2, 3, 4, 5], none⟩⟩] [] 567453553048682496)
  .skip))
 (.seq (.seq (.region [⟨true, ⟨(some 59), .mov (.t 9), [], none⟩⟩] [] 9007199254740992)
 (.cond (.t 59)
  (.region [⟨true, ⟨(some 60), .mov (.t 1), [], none⟩⟩,
    ⟨true, ⟨(some 61), .iaddr none 1 (.t 60) (.c (.int .i64 (.ofNat 0))), [0], none⟩⟩,
    ⟨true, ⟨(some 62), .load none (.t 61), [1], none⟩⟩,
    ⟨true, ⟨(some 63), .mov (.t 1), [], none⟩⟩,
    ⟨true, ⟨(some 64), .slice (some 1) (.t 63) (some (.c (.int .i64 (.ofNat 1)))) none none, [3], none⟩⟩,
    ⟨false, ⟨(some 10), .mov (.t 62), [2, 0, 1, 2], none⟩⟩,
    ⟨false, ⟨(some 1), .mov (.t 64), [4, 5, 0, 1, 2, 3, 4, 5], none⟩⟩] [] 36317027395115679744)
  .skip))
 (.seq (.region [⟨true, ⟨(some 65), .mov (.t 2), [], none⟩⟩,
   ⟨true, ⟨(some 66), .mov (.t 8), [], none⟩⟩,
   ⟨true, ⟨(some 67), .mov (.t 9), [], none⟩⟩,
   ⟨true, ⟨(some 68), .call .heap (.t 65) [(.t 66), (.t 67)], [0, 1, 2], none⟩⟩] [] 258830877784237146880)
 (.cond (.t 68)
  (.region [⟨true, ⟨(some 69), .mov (.t 7), [], none⟩⟩,
    ⟨true, ⟨(some 70), .mov (.t 10), [], none⟩⟩,
    ⟨true, ⟨(some 71), .bslice false .dyn 1 1 [(.int .i64 (.ofNat 0))] [(0, 1, (.t 70))], [1], none⟩⟩,
    ⟨true, ⟨(some 72), .append .dyn 1 8 (.t 69) (.t 71), [0, 2], none⟩⟩,
    ⟨false, ⟨(some 7), .mov (.t 72), [3, 3, 0, 1, 2, 3], none⟩⟩] [] 9149585060559937602560)
  .skip)))))))))))
 (.seq (.region [⟨true, ⟨(some 73), .mov (.t 7), [], none⟩⟩,
   ⟨true, ⟨(some 6), .mov (.t 73), [0, 0], none⟩⟩] [] 9444737468273757749383)
 .ret))))⟩
def f102 : FFn := ⟨9, [.tmp 4],
 (.seq (.region [⟨true, ⟨(some 4), .mov (.c (.bool false)), [], none⟩⟩] [] 16)
 (.seq (.region [⟨true, ⟨(some 5), .mov (.t 0), [], none⟩⟩,
   ⟨true, ⟨(some 6), .mov (.t 5), [0], none⟩⟩,
   ⟨true, ⟨(some 7), .mov (.t 1), [1], (some (6, false))⟩⟩,
   ⟨true, ⟨(some 8), .pick (.t 6) (.c (.bool true)) (.t 7), [1, 2], none⟩⟩,
   ⟨true, ⟨(some 4), .mov (.t 8), [3, 1, 0, 1, 2, 3], none⟩⟩] [] 483)
 .ret))⟩
def f103 : FFn := ⟨21, [],
 (.seq (.region [⟨true, ⟨(some 6), .faddr 1 (.t 1), [], none⟩⟩,
   ⟨true, ⟨(some 7), .load none (.t 6), [0], none⟩⟩,
   ⟨true, ⟨(some 8), .load none (.t 2), [], none⟩⟩,
   ⟨true, ⟨(some 9), .slice (some 2) (.t 7) none (some (.t 8)) none, [1, 2], none⟩⟩,
   ⟨true, ⟨(some 10), .len 1 (.t 9), [3], none⟩⟩,
   ⟨true, ⟨(some 11), .mov (.c (.int .i64 (.ofNat 0))), [], none⟩⟩] [] 454)
 (.block 0 (.loop (.seq (.region [⟨true, ⟨(some 12), .bin .lss (.t 11) (.t 10), [], none⟩⟩] [] 0)
 (.seq (.cond (.t 12)
  .skip
  (.exit 0))
 (.seq (.block 1 (.seq (.region [⟨true, ⟨(some 13), .iaddr none 2 (.t 9) (.t 11), [], none⟩⟩,
   ⟨true, ⟨(some 14), .load (some 2) (.t 13), [0], none⟩⟩,
   ⟨true, ⟨(some 5), .alloc .dyn (.agg [(.str []), .nilsl]), [], none⟩⟩,
   ⟨false, ⟨none, .store 2 (.t 5) (.t 14), [2, 1, 0, 1, 2], none⟩⟩] [] 28672)
 (.seq (.region [⟨true, ⟨(some 15), .mov (.t 0), [], none⟩⟩,
   ⟨true, ⟨(some 16), .faddr 0 (.t 5), [], none⟩⟩,
   ⟨true, ⟨(some 17), .load none (.t 16), [1], none⟩⟩,
   ⟨true, ⟨(some 18), .call .heap (.t 15) [(.t 17)], [0, 2], none⟩⟩,
   ⟨true, ⟨(some 19), .un .not (.t 18), [3], none⟩⟩] [] 491552)
 (.cond (.t 19)
  .ret
  .skip))))
 (.region [⟨true, ⟨(some 20), .bin .add (.t 11) (.c (.int .i64 (.ofNat 1))), [], none⟩⟩,
   ⟨false, ⟨(some 11), .mov (.t 20), [0], none⟩⟩] [] 1572864)))))))⟩
def f104 : FFn := ⟨14, [.cell 4 none],
 (.seq (.region [⟨true, ⟨(some 2), .box .dyn (.t 0), [], none⟩⟩,
   ⟨true, ⟨(some 4), .alloc .dyn (.int .i64 (.ofNat 0)), [], none⟩⟩] [] 1)
 (.seq (.seq (.region [⟨true, ⟨(some 6), .load none (.t 2), [], none⟩⟩,
   ⟨true, ⟨(some 7), .call .heap (.f 96) [(.t 6)], [0], none⟩⟩,
   ⟨true, ⟨(some 8), .un .not (.t 7), [1], none⟩⟩] [] 192)
 (.cond (.t 8)
  (.seq (.region [⟨false, ⟨none, .store 1 (.t 4) (.c (.int .i64 (.ofNat 7))), [], none⟩⟩] [] 262)
  .ret)
  .skip))
 (.seq (.seq (.region [⟨true, ⟨(some 9), .mov (.t 1), [], none⟩⟩] [] 258)
 (.block 0 (.rfunc (.t 9) [10] 14 (.region [⟨true, ⟨(some 5), .mov (.t 10), [], none⟩⟩] [] 1536)
  (.block 1 (.seq (.region [⟨true, ⟨(some 11), .mov (.t 5), [], none⟩⟩,
    ⟨true, ⟨(some 12), .load none (.t 2), [], none⟩⟩,
    ⟨true, ⟨(some 13), .bin .eql (.t 11) (.t 12), [0, 1], none⟩⟩] [] 6180)
  (.cond (.t 13)
   (.seq (.region [⟨false, ⟨none, .store 1 (.t 4) (.c (.int .i64 (.ofNat 8))), [], none⟩⟩] [] 8192)
   .ret)
   .skip))))))
 (.seq (.region [⟨false, ⟨none, .store 1 (.t 4) (.c (.int .i64 (.ofNat 0))), [], none⟩⟩] [] 516)
 .ret))))⟩
def f105 : FFn := ⟨62, [.tmp 4],
 (.seq (.region [⟨true, ⟨(some 2), .box .dyn (.t 0), [], none⟩⟩,
   ⟨true, ⟨(some 3), .box .dyn (.t 1), [], none⟩⟩,
   ⟨true, ⟨(some 4), .mov (.c (.int .i64 (.ofNat 0))), [], none⟩⟩] [] 19)
 (.seq (.seq (.region [⟨true, ⟨(some 7), .faddr 1 (.t 3), [], none⟩⟩,
   ⟨true, ⟨(some 8), .load none (.t 7), [0], none⟩⟩,
   ⟨true, ⟨(some 9), .len 1 (.t 8), [1], none⟩⟩,
   ⟨true, ⟨(some 10), .bin .eql (.t 9) (.c (.int .i64 (.ofNat 0))), [2], none⟩⟩] [] 896)
 (.cond (.t 10)
  (.seq (.region [⟨true, ⟨(some 4), .mov (.c (.int .i64 (.ofNat 12))), [], none⟩⟩] [] 1036)
  .ret)
  .skip))
 (.seq (.seq (.region [⟨true, ⟨(some 11), .faddr 1 (.t 3), [], none⟩⟩,
   ⟨true, ⟨(some 12), .load none (.t 11), [0], none⟩⟩,
   ⟨true, ⟨(some 13), .len 1 (.t 12), [1], none⟩⟩,
   ⟨true, ⟨(some 14), .mov (.c (.int .i64 (.ofNat 0))), [], none⟩⟩] [] 3088)
 (.block 0 (.loop (.seq (.region [⟨true, ⟨(some 15), .bin .lss (.t 14) (.t 13), [], none⟩⟩] [] 0)
 (.seq (.cond (.t 15)
  .skip
  (.exit 0))
 (.seq (.block 1 (.seq (.region [⟨true, ⟨(some 16), .mov (.t 14), [], none⟩⟩,
   ⟨true, ⟨(some 17), .iaddr none 2 (.t 12) (.t 14), [], none⟩⟩,
   ⟨true, ⟨(some 18), .load (some 2) (.t 17), [1], none⟩⟩,
   ⟨true, ⟨(some 6), .alloc .dyn (.agg [(.int .i64 (.ofNat 0)), (.int .i64 (.ofNat 0))]), [], none⟩⟩,
   ⟨true, ⟨(some 5), .mov (.t 16), [0, 0, 1, 2, 3], none⟩⟩,
   ⟨false, ⟨none, .store 2 (.t 6) (.t 18), [3, 2, 4, 0, 1, 2, 3, 4], none⟩⟩] [] 491520)
 (.block 2 (.seq (.region [⟨true, ⟨(some 20), .faddr 0 (.t 6), [], none⟩⟩,
   ⟨true, ⟨(some 21), .load none (.t 20), [0], none⟩⟩,
   ⟨true, ⟨(some 22), .bin .lss (.t 21) (.c (.int .i64 (.ofNat 0))), [1], none⟩⟩,
   ⟨true, ⟨(some 23), .mov (.t 22), [2], none⟩⟩,
   ⟨false, ⟨(some 24), .faddr 0 (.t 6), [3], (some (23, false))⟩⟩,
   ⟨false, ⟨(some 25), .load none (.t 24), [4, 3], (some (23, false))⟩⟩,
   ⟨false, ⟨(some 26), .faddr 0 (.t 2), [3], (some (23, false))⟩⟩,
   ⟨false, ⟨(some 27), .load none (.t 26), [6, 3], (some (23, false))⟩⟩,
   ⟨false, ⟨(some 28), .len 1 (.t 27), [7, 3], (some (23, false))⟩⟩,
   ⟨false, ⟨(some 29), .bin .geq (.t 25) (.t 28), [5, 8, 3], (some (23, false))⟩⟩,
   ⟨true, ⟨(some 30), .pick (.t 23) (.c (.bool true)) (.t 29), [3, 9], none⟩⟩,
   ⟨true, ⟨(some 19), .mov (.t 30), [10, 3], none⟩⟩] [] 1089470464)
 (.cond (.t 19)
  (.seq (.region [⟨true, ⟨(some 4), .mov (.c (.int .i64 (.ofNat 2))), [], none⟩⟩] [] 1150704855863029868)
  .ret)
  (.seq (.region [⟨true, ⟨(some 32), .mov (.t 5), [], none⟩⟩,
    ⟨true, ⟨(some 33), .bin .gtr (.t 32) (.c (.int .i64 (.ofNat 0))), [0], none⟩⟩,
    ⟨true, ⟨(some 34), .mov (.t 33), [1], none⟩⟩,
    ⟨false, ⟨(some 35), .faddr 0 (.t 6), [2], (some (34, true))⟩⟩,
    ⟨false, ⟨(some 36), .load none (.t 35), [3, 2], (some (34, true))⟩⟩,
    ⟨false, ⟨(some 37), .faddr 1 (.t 3), [2], (some (34, true))⟩⟩,
    ⟨false, ⟨(some 38), .load none (.t 37), [5, 2], (some (34, true))⟩⟩,
    ⟨false, ⟨(some 39), .mov (.t 5), [2], (some (34, true))⟩⟩,
    ⟨false, ⟨(some 40), .bin .sub (.t 39) (.c (.int .i64 (.ofNat 1))), [7, 2], (some (34, true))⟩⟩,
    ⟨false, ⟨(some 41), .iaddr none 2 (.t 38) (.t 40), [6, 8, 2], (some (34, true))⟩⟩,
    ⟨false, ⟨(some 42), .faddr 0 (.t 41), [9, 2], (some (34, true))⟩⟩,
    ⟨false, ⟨(some 43), .load none (.t 42), [10, 2], (some (34, true))⟩⟩,
    ⟨false, ⟨(some 44), .bin .leq (.t 36) (.t 43), [4, 11, 2], (some (34, true))⟩⟩,
    ⟨true, ⟨(some 45), .pick (.t 34) (.t 44) (.c (.bool false)), [2, 12], none⟩⟩,
    ⟨true, ⟨(some 31), .mov (.t 45), [13, 2], none⟩⟩] [] 35214437384224)
  (.cond (.t 31)
   (.seq (.region [⟨true, ⟨(some 4), .mov (.c (.int .i64 (.ofNat 5))), [], none⟩⟩] [] 1150704858009989196)
   .ret)
   (.seq (.region [⟨true, ⟨(some 47), .faddr 1 (.t 6), [], none⟩⟩,
     ⟨true, ⟨(some 48), .load none (.t 47), [0], none⟩⟩,
     ⟨true, ⟨(some 49), .bin .lss (.t 48) (.c (.int .i64 (.ofNat 0))), [1], none⟩⟩,
     ⟨true, ⟨(some 50), .mov (.t 49), [2], none⟩⟩,
     ⟨false, ⟨(some 51), .faddr 1 (.t 6), [3], (some (50, false))⟩⟩,
     ⟨false, ⟨(some 52), .load none (.t 51), [4, 3], (some (50, false))⟩⟩,
     ⟨false, ⟨(some 53), .faddr 0 (.t 2), [3], (some (50, false))⟩⟩,
     ⟨false, ⟨(some 54), .load none (.t 53), [6, 3], (some (50, false))⟩⟩,
     ⟨false, ⟨(some 55), .faddr 0 (.t 6), [3], (some (50, false))⟩⟩,
     ⟨false, ⟨(some 56), .load none (.t 55), [8, 3], (some (50, false))⟩⟩,
     ⟨false, ⟨(some 57), .iaddr none 1 (.t 54) (.t 56), [7, 9, 3], (some (50, false))⟩⟩,
     ⟨false, ⟨(some 58), .load none (.t 57), [10, 3], (some (50, false))⟩⟩,
     ⟨false, ⟨(some 59), .bin .geq (.t 52) (.t 58), [5, 11, 3], (some (50, false))⟩⟩,
     ⟨true, ⟨(some 60), .pick (.t 50) (.c (.bool true)) (.t 59), [3, 12], none⟩⟩,
     ⟨true, ⟨(some 46), .mov (.t 60), [13, 3], none⟩⟩] [] 1155032569079660608)
   (.cond (.t 46)
    (.seq (.region [⟨true, ⟨(some 4), .mov (.c (.int .i64 (.ofNat 2))), [], none⟩⟩] [] 1150775224606683148)
    .ret)
    .skip)))))))))
 (.region [⟨true, ⟨(some 61), .bin .add (.t 14) (.c (.int .i64 (.ofNat 1))), [], none⟩⟩,
   ⟨false, ⟨(some 14), .mov (.t 61), [0], none⟩⟩] [] 2305913377957871632)))))))
 (.seq (.region [⟨true, ⟨(some 4), .mov (.c (.int .i64 (.ofNat 0))), [], none⟩⟩] [] 1150704855862505484)
 .ret))))⟩
def f106 : FFn := ⟨21, [],
 (.seq (.region [⟨true, ⟨(some 6), .faddr 2 (.t 1), [], none⟩⟩,
   ⟨true, ⟨(some 7), .load none (.t 6), [0], none⟩⟩,
   ⟨true, ⟨(some 8), .load none (.t 2), [], none⟩⟩,
   ⟨true, ⟨(some 9), .slice (some 3) (.t 7) none (some (.t 8)) none, [1, 2], none⟩⟩,
   ⟨true, ⟨(some 10), .len 1 (.t 9), [3], none⟩⟩,
   ⟨true, ⟨(some 11), .mov (.c (.int .i64 (.ofNat 0))), [], none⟩⟩] [] 454)
 (.block 0 (.loop (.seq (.region [⟨true, ⟨(some 12), .bin .lss (.t 11) (.t 10), [], none⟩⟩] [] 0)
 (.seq (.cond (.t 12)
  .skip
  (.exit 0))
 (.seq (.block 1 (.seq (.region [⟨true, ⟨(some 13), .iaddr none 3 (.t 9) (.t 11), [], none⟩⟩,
   ⟨true, ⟨(some 14), .load (some 3) (.t 13), [0], none⟩⟩,
   ⟨true, ⟨(some 5), .alloc .dyn (.agg [(.str []), .nilsl, (.int .i64 (.ofNat 0))]), [], none⟩⟩,
   ⟨false, ⟨none, .store 3 (.t 5) (.t 14), [2, 1, 0, 1, 2], none⟩⟩] [] 28672)
 (.seq (.region [⟨true, ⟨(some 15), .mov (.t 0), [], none⟩⟩,
   ⟨true, ⟨(some 16), .faddr 0 (.t 5), [], none⟩⟩,
   ⟨true, ⟨(some 17), .load none (.t 16), [1], none⟩⟩,
   ⟨true, ⟨(some 18), .call .heap (.t 15) [(.t 17)], [0, 2], none⟩⟩,
   ⟨true, ⟨(some 19), .un .not (.t 18), [3], none⟩⟩] [] 491552)
 (.cond (.t 19)
  .ret
  .skip))))
 (.region [⟨true, ⟨(some 20), .bin .add (.t 11) (.c (.int .i64 (.ofNat 1))), [], none⟩⟩,
   ⟨false, ⟨(some 11), .mov (.t 20), [0], none⟩⟩] [] 1572864)))))))⟩
end Go.AM.JA
