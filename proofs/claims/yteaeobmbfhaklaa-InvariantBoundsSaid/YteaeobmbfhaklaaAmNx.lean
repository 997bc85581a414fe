/- The slim code of the functions that are run. -/
import Derived.Test.YteaeobmbfhaklaaAmN
import Derived.Test.YteaeobmbfhaklaaProg
import Derived.KernelRfl
set_option maxRecDepth 100000
namespace Go.AM.SN
open Go.Proofs
-- overseer/overseerlaw48.InvariantBounds
def s4 : SFn := ⟨242, [.tmp 6],
 (.seq (.region [⟨(some 3), .box .dyn (.t 0), [], none⟩,
   ⟨(some 6), .mov (.c (.bool false)), [], none⟩] [] [0, 6])
 (.seq (.seq (.region [⟨(some 21), .call .pure (.f 12) [], [], none⟩,
   ⟨(some 22), .un .not (.t 21), [0], none⟩,
   ⟨(some 23), .mov (.t 22), [1, 0], none⟩,
   ⟨(some 24), .mov (.t 1), [2], (some (23, false))⟩,
   ⟨(some 25), .len 1 (.t 24), [3, 2], (some (23, false))⟩,
   ⟨(some 26), .bin .gtr (.t 25) (.c (.int .i64 4)), [4, 2], (some (23, false))⟩,
   ⟨(some 27), .pick (.t 23) (.c (.bool true)) (.t 26), [2, 5], none⟩,
   ⟨(some 28), .mov (.t 27), [6, 2], none⟩,
   ⟨(some 29), .mov (.t 2), [7], (some (28, false))⟩,
   ⟨(some 30), .len 1 (.t 29), [8, 7], (some (28, false))⟩,
   ⟨(some 31), .bin .gtr (.t 30) (.c (.int .i64 6)), [9, 7], (some (28, false))⟩,
   ⟨(some 32), .pick (.t 28) (.c (.bool true)) (.t 31), [7, 10], none⟩] [] [21, 22, 23, 24, 25, 26, 27, 28, 29, 30, 31])
 (.cond (.t 32)
  (.seq (.region [⟨(some 33), .call .pure (.f 12) [], [], none⟩,
    ⟨(some 6), .mov (.t 33), [0, 0, 0], none⟩] [] [1, 2, 3, 32, 33])
  .ret)
  .skip))
 (.seq (.region [⟨(some 34), .load (some 7) (.t 3), [], none⟩,
   ⟨(some 35), .call .pure (.f 13) [(.t 34)], [0], none⟩,
   ⟨(some 7), .alloc .dyn (.agg [.nilsl, .nilsl]), [], none⟩,
   ⟨none, .store 2 (.t 7) (.t 35), [2, 1, 1, 0, 1, 2], none⟩] [] [6, 3, 32, 34, 35])
 (.seq (.region [⟨(some 8), .mov (.c (.int .i64 0)), [], none⟩] [] [])
 (.seq (.seq (.region [⟨(some 9), .mov (.c (.int .i64 0)), [], none⟩] [] [])
 (.block 0 (.loop (.seq (.seq (.region [⟨(some 36), .mov (.t 9), [], none⟩,
   ⟨(some 37), .mov (.t 1), [], none⟩,
   ⟨(some 38), .len 1 (.t 37), [1], none⟩,
   ⟨(some 39), .bin .lss (.t 36) (.t 38), [0, 2], none⟩] [] [36, 37, 38])
 (.cond (.t 39)
  .skip
  (.exit 0)))
 (.seq (.block 1 (.seq (.seq (.region [⟨(some 42), .mov (.t 1), [], none⟩,
   ⟨(some 43), .mov (.t 9), [], none⟩,
   ⟨(some 44), .iaddr none 1 (.t 42) (.t 43), [0, 1], none⟩,
   ⟨(some 45), .load none (.t 44), [2], none⟩,
   ⟨(some 46), .len 1 (.t 45), [3], none⟩,
   ⟨(some 47), .bin .gtr (.t 46) (.c (.int .i64 6)), [4], none⟩] [] [39, 42, 43, 44, 45, 46])
 (.cond (.t 47)
  (.seq (.region [⟨(some 6), .mov (.c (.bool true)), [], none⟩] [] [1, 2, 7, 8, 9, 75, 66, 74, 73, 68, 72, 71, 69, 70, 67, 65, 64, 63, 61, 62, 165, 147, 164, 162, 163, 154, 161, 160, 158, 159, 157, 155, 156, 151, 153, 152, 150, 148, 149, 146, 145, 192, 190, 191, 189, 187, 188, 240, 237, 239, 238, 234, 231, 233, 232, 116, 110, 115, 113, 114, 112, 111, 109, 108, 105, 103, 104, 47])
  .ret)
  .skip))
 (.seq (.seq (.region [⟨(some 48), .mov (.t 8), [], none⟩,
   ⟨(some 49), .bin .eql (.t 48) (.c (.int .i64 0)), [0], none⟩] [] [6, 47, 48])
 (.cond (.t 49)
  (.region [⟨(some 50), .mov (.t 1), [], none⟩,
    ⟨(some 51), .mov (.t 9), [], none⟩,
    ⟨(some 52), .iaddr none 1 (.t 50) (.t 51), [0, 1], none⟩,
    ⟨(some 53), .load none (.t 52), [2], none⟩,
    ⟨(some 54), .faddr 0 (.t 7), [], none⟩,
    ⟨(some 55), .load none (.t 54), [4], none⟩,
    ⟨(some 56), .len 1 (.t 55), [5], none⟩,
    ⟨(some 57), .call .pure (.f 19) [(.t 53), (.t 56)], [3, 6], none⟩,
    ⟨(some 8), .mov (.t 57), [7, 7, 0, 1, 2, 3, 4, 5, 6, 7], none⟩] [] [49, 50, 51, 52, 53, 54, 55, 56, 57])
  .skip))
 (.seq (.region [⟨(some 58), .mov (.t 8), [], none⟩,
   ⟨(some 59), .bin .eql (.t 58) (.c (.int .i64 0)), [0], none⟩,
   ⟨(some 60), .mov (.t 59), [1], none⟩,
   ⟨(some 61), .mov (.t 1), [2], (some (60, true))⟩,
   ⟨(some 62), .mov (.t 9), [2], (some (60, true))⟩,
   ⟨(some 63), .iaddr none 1 (.t 61) (.t 62), [3, 4, 2], (some (60, true))⟩,
   ⟨(some 64), .load none (.t 63), [5, 2], (some (60, true))⟩,
   ⟨(some 65), .call .pure (.f 20) [(.t 64)], [6, 2, 2], (some (60, true))⟩,
   ⟨(some 66), .mov (.t 65), [7, 7, 2], (some (60, true))⟩,
   ⟨(some 67), .load (some 2) (.t 7), [8], (some (66, false))⟩,
   ⟨(some 68), .call .pure (.f 22) [(.t 67)], [9, 8, 8], (some (66, false))⟩,
   ⟨(some 69), .mov (.t 1), [8], (some (66, false))⟩,
   ⟨(some 70), .mov (.t 9), [8], (some (66, false))⟩,
   ⟨(some 71), .iaddr none 1 (.t 69) (.t 70), [11, 12, 8], (some (66, false))⟩,
   ⟨(some 72), .load none (.t 71), [13, 8], (some (66, false))⟩,
   ⟨(some 73), .call .pure (.f 21) [(.t 68), (.t 72)], [10, 14, 10, 8], (some (66, false))⟩,
   ⟨(some 74), .un .not (.t 73), [15, 8], (some (66, false))⟩,
   ⟨(some 75), .pick (.t 66) (.c (.bool true)) (.t 74), [8, 16, 2], (some (60, true))⟩,
   ⟨(some 76), .pick (.t 60) (.t 75) (.c (.bool false)), [2, 17], none⟩] [] [49, 58, 59, 60])
 (.cond (.t 76)
  (.region [⟨(some 8), .mov (.c (.int .i64 6)), [], none⟩] [] [76])
  .skip)))))
 (.region [⟨(some 40), .mov (.t 9), [], none⟩,
   ⟨(some 41), .bin .add (.t 40) (.c (.int .i64 1)), [0], none⟩,
   ⟨(some 9), .mov (.t 41), [1, 0, 1], none⟩] [] [76, 40, 41]))))))
 (.seq (.region [⟨(some 78), .load (some 2) (.t 7), [], none⟩,
   ⟨(some 79), .mov (.t 1), [], none⟩,
   ⟨(some 80), .call .pure (.f 23) [(.t 78), (.t 79)], [0, 1], none⟩,
   ⟨(some 77), .mov (.t 80), [2], none⟩,
   ⟨(some 81), .extract 0 (.t 77), [3], none⟩,
   ⟨(some 82), .extract 1 (.t 77), [3], none⟩,
   ⟨(some 10), .mov (.t 81), [4, 2, 0, 1, 2, 3, 4], none⟩,
   ⟨(some 11), .mov (.t 82), [5, 6, 0, 1, 2, 3, 4, 5, 6], none⟩] [] [9, 75, 66, 74, 73, 68, 72, 71, 69, 70, 67, 65, 64, 63, 61, 62, 78, 79, 80, 77, 81, 82])
 (.seq (.region [⟨(some 84), .load (some 2) (.t 7), [], none⟩,
   ⟨(some 85), .mov (.t 1), [], none⟩,
   ⟨(some 86), .mov (.t 2), [], none⟩,
   ⟨(some 87), .call .pure (.f 24) [(.t 84), (.t 85), (.t 86)], [0, 1, 2], none⟩,
   ⟨(some 83), .mov (.t 87), [3], none⟩,
   ⟨(some 88), .extract 0 (.t 83), [4], none⟩,
   ⟨(some 89), .extract 1 (.t 83), [4], none⟩,
   ⟨(some 90), .extract 2 (.t 83), [4], none⟩,
   ⟨(some 12), .mov (.t 88), [5, 3, 0, 1, 2, 3, 4, 5], none⟩,
   ⟨(some 13), .mov (.t 89), [6, 8, 0, 1, 2, 3, 4, 5, 6, 8], none⟩,
   ⟨(some 14), .mov (.t 90), [7, 9, 0, 1, 2, 3, 4, 5, 6, 7, 8, 9], none⟩] [] [84, 85, 86, 87, 83, 88, 89, 90])
 (.seq (.region [⟨(some 91), .mov (.t 8), [], none⟩,
   ⟨(some 15), .mov (.t 91), [0, 0], none⟩] [] [91])
 (.seq (.seq (.region [⟨(some 92), .mov (.t 15), [], none⟩,
   ⟨(some 93), .bin .eql (.t 92) (.c (.int .i64 0)), [0], none⟩] [] [92])
 (.cond (.t 93)
  (.region [⟨(some 94), .mov (.t 2), [], none⟩,
    ⟨(some 95), .faddr 0 (.t 7), [], none⟩,
    ⟨(some 96), .load none (.t 95), [1], none⟩,
    ⟨(some 97), .len 1 (.t 96), [2], none⟩,
    ⟨(some 98), .call .pure (.f 19) [(.t 94), (.t 97)], [0, 3], none⟩,
    ⟨(some 15), .mov (.t 98), [4, 4, 0, 1, 2, 3, 4], none⟩] [] [93, 94, 95, 96, 97, 98])
  .skip))
 (.seq (.seq (.region [⟨(some 99), .mov (.t 11), [], none⟩,
   ⟨(some 100), .mov (.t 8), [], none⟩,
   ⟨(some 101), .bin .neq (.t 99) (.t 100), [0, 1], none⟩,
   ⟨(some 102), .mov (.t 101), [2], none⟩,
   ⟨(some 103), .mov (.t 14), [3], (some (102, false))⟩,
   ⟨(some 104), .mov (.t 15), [3], (some (102, false))⟩,
   ⟨(some 105), .bin .neq (.t 103) (.t 104), [4, 5, 3], (some (102, false))⟩,
   ⟨(some 106), .pick (.t 102) (.c (.bool true)) (.t 105), [3, 6], none⟩,
   ⟨(some 107), .mov (.t 106), [7, 3], none⟩,
   ⟨(some 108), .mov (.t 15), [8], (some (107, false))⟩,
   ⟨(some 109), .bin .neq (.t 108) (.c (.int .i64 0)), [9, 8], (some (107, false))⟩,
   ⟨(some 110), .mov (.t 109), [10, 8, 8], (some (107, false))⟩,
   ⟨(some 111), .mov (.t 12), [11], (some (110, true))⟩,
   ⟨(some 112), .bin .neq (.t 111) (.c (.int .i64 0)), [12, 11], (some (110, true))⟩,
   ⟨(some 113), .mov (.t 112), [13, 11, 11], (some (110, true))⟩,
   ⟨(some 114), .mov (.t 13), [14], (some (113, false))⟩,
   ⟨(some 115), .pick (.t 113) (.c (.bool true)) (.t 114), [14, 15, 11], (some (110, true))⟩,
   ⟨(some 116), .pick (.t 110) (.t 115) (.c (.bool false)), [11, 16, 8], (some (107, false))⟩,
   ⟨(some 117), .pick (.t 107) (.c (.bool true)) (.t 116), [8, 17], none⟩] [] [116, 110, 115, 113, 114, 112, 111, 109, 108, 105, 103, 104, 11, 14, 93, 99, 100, 101, 102, 106, 107])
 (.cond (.t 117)
  (.seq (.region [⟨(some 6), .mov (.c (.bool false)), [], none⟩] [] [1, 2, 7, 8, 165, 147, 164, 162, 163, 154, 161, 160, 158, 159, 157, 155, 156, 151, 153, 152, 150, 148, 149, 146, 145, 192, 190, 191, 189, 187, 188, 240, 237, 239, 238, 234, 231, 233, 232, 10, 12, 13, 15, 117])
  .ret)
  .skip))
 (.seq (.seq (.region [⟨(some 118), .mov (.t 8), [], none⟩,
   ⟨(some 119), .bin .neq (.t 118) (.c (.int .i64 0)), [0], none⟩] [] [6, 8, 117, 118])
 (.cond (.t 119)
  (.seq (.region [⟨(some 120), .mov (.t 10), [], none⟩,
    ⟨(some 121), .len 1 (.t 120), [0], none⟩,
    ⟨(some 122), .bin .eql (.t 121) (.c (.int .i64 0)), [1], none⟩,
    ⟨(some 6), .mov (.t 122), [2, 0, 1, 2], none⟩] [] [1, 2, 7, 165, 147, 164, 162, 163, 154, 161, 160, 158, 159, 157, 155, 156, 151, 153, 152, 150, 148, 149, 146, 145, 192, 190, 191, 189, 187, 188, 240, 237, 239, 238, 234, 231, 233, 232, 10, 12, 13, 15, 119, 120, 121, 122])
  .ret)
  .skip))
 (.seq (.seq (.region [⟨(some 16), .mov (.c (.int .i64 0)), [], none⟩] [] [6, 119])
 (.block 2 (.loop (.seq (.seq (.region [⟨(some 123), .mov (.t 16), [], none⟩,
   ⟨(some 124), .faddr 0 (.t 7), [], none⟩,
   ⟨(some 125), .load none (.t 124), [1], none⟩,
   ⟨(some 126), .len 1 (.t 125), [2], none⟩,
   ⟨(some 127), .bin .lss (.t 123) (.t 126), [0, 3], none⟩] [] [123, 124, 125, 126])
 (.cond (.t 127)
  .skip
  (.exit 2)))
 (.seq (.block 3 (.seq (.region [⟨(some 17), .mov (.c (.int .i64 (-1))), [], none⟩] [] [127])
 (.seq (.seq (.region [⟨(some 18), .mov (.c (.int .i64 0)), [], none⟩] [] [])
 (.block 4 (.loop (.seq (.seq (.region [⟨(some 130), .mov (.t 18), [], none⟩,
   ⟨(some 131), .mov (.t 1), [], none⟩,
   ⟨(some 132), .len 1 (.t 131), [1], none⟩,
   ⟨(some 133), .bin .lss (.t 130) (.t 132), [0, 2], none⟩] [] [130, 131, 132])
 (.cond (.t 133)
  .skip
  (.exit 4)))
 (.seq (.block 5 (.seq (.region [⟨(some 136), .mov (.t 1), [], none⟩,
   ⟨(some 137), .mov (.t 18), [], none⟩,
   ⟨(some 138), .iaddr none 1 (.t 136) (.t 137), [0, 1], none⟩,
   ⟨(some 139), .load none (.t 138), [2], none⟩,
   ⟨(some 140), .mov (.t 16), [], none⟩,
   ⟨(some 141), .iaddr none 1 (.t 139) (.t 140), [3, 4], none⟩,
   ⟨(some 142), .load none (.t 141), [5], none⟩,
   ⟨(some 143), .bin .gtr (.t 142) (.c (.int .i64 0)), [6], none⟩,
   ⟨(some 144), .mov (.t 143), [7], none⟩,
   ⟨(some 145), .mov (.t 17), [8], (some (144, true))⟩,
   ⟨(some 146), .bin .lss (.t 145) (.c (.int .i64 0)), [9, 8], (some (144, true))⟩,
   ⟨(some 147), .mov (.t 146), [10, 8, 8], (some (144, true))⟩,
   ⟨(some 148), .mov (.t 1), [11], (some (147, false))⟩,
   ⟨(some 149), .mov (.t 18), [11], (some (147, false))⟩,
   ⟨(some 150), .iaddr none 1 (.t 148) (.t 149), [12, 13, 11], (some (147, false))⟩,
   ⟨(some 151), .load none (.t 150), [14, 11], (some (147, false))⟩,
   ⟨(some 152), .faddr 0 (.t 7), [11], (some (147, false))⟩,
   ⟨(some 153), .load none (.t 152), [16, 11], (some (147, false))⟩,
   ⟨(some 154), .call .pure (.f 25) [(.t 151), (.t 153)], [15, 17, 11, 11], (some (147, false))⟩,
   ⟨(some 155), .mov (.t 1), [11], (some (147, false))⟩,
   ⟨(some 156), .mov (.t 18), [11], (some (147, false))⟩,
   ⟨(some 157), .iaddr none 1 (.t 155) (.t 156), [19, 20, 11], (some (147, false))⟩,
   ⟨(some 158), .load none (.t 157), [21, 11], (some (147, false))⟩,
   ⟨(some 159), .mov (.t 16), [11], (some (147, false))⟩,
   ⟨(some 160), .iaddr none 1 (.t 158) (.t 159), [22, 23, 11], (some (147, false))⟩,
   ⟨(some 161), .load none (.t 160), [24, 11], (some (147, false))⟩,
   ⟨(some 162), .bin .quo (.t 154) (.t 161), [18, 25, 11], (some (147, false))⟩,
   ⟨(some 163), .mov (.t 17), [11], (some (147, false))⟩,
   ⟨(some 164), .bin .lss (.t 162) (.t 163), [26, 27, 11], (some (147, false))⟩,
   ⟨(some 165), .pick (.t 147) (.c (.bool true)) (.t 164), [11, 28, 8], (some (144, true))⟩,
   ⟨(some 166), .pick (.t 144) (.t 165) (.c (.bool false)), [8, 29], none⟩] [] [133, 136, 137, 138, 139, 140, 141, 142, 143, 144])
 (.cond (.t 166)
  (.region [⟨(some 167), .mov (.t 1), [], none⟩,
    ⟨(some 168), .mov (.t 18), [], none⟩,
    ⟨(some 169), .iaddr none 1 (.t 167) (.t 168), [0, 1], none⟩,
    ⟨(some 170), .load none (.t 169), [2], none⟩,
    ⟨(some 171), .faddr 0 (.t 7), [], none⟩,
    ⟨(some 172), .load none (.t 171), [4], none⟩,
    ⟨(some 173), .call .pure (.f 25) [(.t 170), (.t 172)], [3, 5], none⟩,
    ⟨(some 174), .mov (.t 1), [], none⟩,
    ⟨(some 175), .mov (.t 18), [], none⟩,
    ⟨(some 176), .iaddr none 1 (.t 174) (.t 175), [7, 8], none⟩,
    ⟨(some 177), .load none (.t 176), [9], none⟩,
    ⟨(some 178), .mov (.t 16), [], none⟩,
    ⟨(some 179), .iaddr none 1 (.t 177) (.t 178), [10, 11], none⟩,
    ⟨(some 180), .load none (.t 179), [12], none⟩,
    ⟨(some 181), .bin .quo (.t 173) (.t 180), [6, 13], none⟩,
    ⟨(some 17), .mov (.t 181), [14, 6, 0, 1, 2, 3, 4, 5, 6, 7, 8, 9, 10, 11, 12, 13, 14], none⟩] [] [166, 167, 168, 169, 170, 171, 172, 173, 174, 175, 176, 177, 178, 179, 180, 181])
  .skip)))
 (.region [⟨(some 134), .mov (.t 18), [], none⟩,
   ⟨(some 135), .bin .add (.t 134) (.c (.int .i64 1)), [0], none⟩,
   ⟨(some 18), .mov (.t 135), [1, 0, 1], none⟩] [] [166, 134, 135]))))))
 (.seq (.region [⟨(some 182), .mov (.t 16), [], none⟩,
   ⟨(some 183), .mov (.t 10), [], none⟩,
   ⟨(some 184), .len 1 (.t 183), [1], none⟩,
   ⟨(some 185), .bin .geq (.t 182) (.t 184), [0, 2], none⟩,
   ⟨(some 186), .mov (.t 185), [3], none⟩,
   ⟨(some 187), .mov (.t 10), [4], (some (186, false))⟩,
   ⟨(some 188), .mov (.t 16), [4], (some (186, false))⟩,
   ⟨(some 189), .iaddr none 1 (.t 187) (.t 188), [5, 6, 4], (some (186, false))⟩,
   ⟨(some 190), .load none (.t 189), [7, 4], (some (186, false))⟩,
   ⟨(some 191), .mov (.t 17), [4], (some (186, false))⟩,
   ⟨(some 192), .bin .neq (.t 190) (.t 191), [8, 9, 4], (some (186, false))⟩,
   ⟨(some 193), .pick (.t 186) (.c (.bool true)) (.t 192), [4, 10], none⟩] [] [17, 18, 182, 183, 184, 185, 186])
 (.cond (.t 193)
  (.seq (.region [⟨(some 6), .mov (.c (.bool false)), [], none⟩] [] [1, 2, 7, 165, 147, 164, 162, 163, 154, 161, 160, 158, 159, 157, 155, 156, 151, 153, 152, 150, 148, 149, 146, 145, 192, 190, 191, 189, 187, 188, 240, 237, 239, 238, 234, 231, 233, 232, 10, 12, 13, 15, 16, 193])
  .ret)
  .skip)))))
 (.region [⟨(some 128), .mov (.t 16), [], none⟩,
   ⟨(some 129), .bin .add (.t 128) (.c (.int .i64 1)), [0], none⟩,
   ⟨(some 16), .mov (.t 129), [1, 0, 1], none⟩] [] [6, 193, 128, 129]))))))
 (.seq (.seq (.region [⟨(some 194), .mov (.t 15), [], none⟩,
   ⟨(some 195), .bin .neq (.t 194) (.c (.int .i64 0)), [0], none⟩] [] [165, 147, 164, 162, 163, 154, 161, 160, 158, 159, 157, 155, 156, 151, 153, 152, 150, 148, 149, 146, 145, 192, 190, 191, 189, 187, 188, 15, 16, 194])
 (.cond (.t 195)
  (.seq (.region [⟨(some 196), .mov (.t 10), [], none⟩,
    ⟨(some 197), .len 1 (.t 196), [0], none⟩,
    ⟨(some 198), .faddr 0 (.t 7), [], none⟩,
    ⟨(some 199), .load none (.t 198), [2], none⟩,
    ⟨(some 200), .len 1 (.t 199), [3], none⟩,
    ⟨(some 201), .bin .eql (.t 197) (.t 200), [1, 4], none⟩,
    ⟨(some 6), .mov (.t 201), [5, 0, 1, 2, 3, 4, 5], none⟩] [] [1, 2, 7, 240, 237, 239, 238, 234, 231, 233, 232, 10, 12, 13, 195, 196, 197, 198, 199, 200, 201])
  .ret)
  .skip))
 (.seq (.region [⟨(some 19), .mov (.c (.int .i64 (-1))), [], none⟩] [] [6, 195])
 (.seq (.seq (.region [⟨(some 202), .mov (.t 1), [], none⟩,
   ⟨(some 203), .len 1 (.t 202), [0], none⟩,
   ⟨(some 204), .bin .sub (.t 203) (.c (.int .i64 1)), [1], none⟩,
   ⟨(some 20), .mov (.t 204), [2, 0, 1, 2], none⟩] [] [202, 203, 204])
 (.block 6 (.loop (.seq (.seq (.region [⟨(some 205), .mov (.t 20), [], none⟩,
   ⟨(some 206), .bin .geq (.t 205) (.c (.int .i64 0)), [0], none⟩] [] [205])
 (.cond (.t 206)
  .skip
  (.exit 6)))
 (.seq (.block 7 (.seq (.region [⟨(some 209), .mov (.t 1), [], none⟩,
   ⟨(some 210), .mov (.t 20), [], none⟩,
   ⟨(some 211), .iaddr none 1 (.t 209) (.t 210), [0, 1], none⟩,
   ⟨(some 212), .load none (.t 211), [2], none⟩,
   ⟨(some 213), .mov (.t 2), [], none⟩,
   ⟨(some 214), .call .pure (.f 25) [(.t 212), (.t 213)], [3, 4], none⟩,
   ⟨(some 215), .mov (.t 1), [], none⟩,
   ⟨(some 216), .mov (.t 20), [], none⟩,
   ⟨(some 217), .iaddr none 1 (.t 215) (.t 216), [6, 7], none⟩,
   ⟨(some 218), .load none (.t 217), [8], none⟩,
   ⟨(some 219), .faddr 0 (.t 7), [], none⟩,
   ⟨(some 220), .load none (.t 219), [10], none⟩,
   ⟨(some 221), .call .pure (.f 25) [(.t 218), (.t 220)], [9, 11, 5], none⟩,
   ⟨(some 222), .bin .neq (.t 214) (.t 221), [5, 12], none⟩] [] [206, 209, 210, 211, 212, 213, 214, 215, 216, 217, 218, 219, 220, 221])
 (.cond (.t 222)
  (.region [⟨(some 223), .mov (.t 20), [], none⟩,
    ⟨(some 19), .mov (.t 223), [0, 0], none⟩] [] [222, 223])
  .skip)))
 (.region [⟨(some 207), .mov (.t 20), [], none⟩,
   ⟨(some 208), .bin .sub (.t 207) (.c (.int .i64 1)), [0], none⟩,
   ⟨(some 20), .mov (.t 208), [1, 0, 1], none⟩] [] [222, 207, 208]))))))
 (.seq (.region [⟨(some 224), .mov (.t 10), [], none⟩,
   ⟨(some 225), .len 1 (.t 224), [0], none⟩,
   ⟨(some 226), .faddr 0 (.t 7), [], none⟩,
   ⟨(some 227), .load none (.t 226), [2], none⟩,
   ⟨(some 228), .len 1 (.t 227), [3], none⟩,
   ⟨(some 229), .bin .eql (.t 225) (.t 228), [1, 4], none⟩,
   ⟨(some 230), .mov (.t 229), [5], none⟩,
   ⟨(some 231), .mov (.t 13), [6], (some (230, true))⟩,
   ⟨(some 232), .mov (.t 19), [6], (some (230, true))⟩,
   ⟨(some 233), .bin .geq (.t 232) (.c (.int .i64 0)), [8, 6], (some (230, true))⟩,
   ⟨(some 234), .eq (.flat false [.b]) false (.t 231) (.t 233), [7, 9, 6], (some (230, true))⟩,
   ⟨(some 235), .pick (.t 230) (.t 234) (.c (.bool false)), [6, 10], none⟩,
   ⟨(some 236), .mov (.t 235), [11, 6], none⟩,
   ⟨(some 237), .mov (.t 12), [12], (some (236, true))⟩,
   ⟨(some 238), .mov (.t 19), [12], (some (236, true))⟩,
   ⟨(some 239), .maxmin false [(.t 238), (.c (.int .i64 0))], [14, 12], (some (236, true))⟩,
   ⟨(some 240), .bin .eql (.t 237) (.t 239), [13, 15, 12], (some (236, true))⟩,
   ⟨(some 241), .pick (.t 236) (.t 240) (.c (.bool false)), [12, 16], none⟩,
   ⟨(some 6), .mov (.t 241), [17, 12, 0, 1, 2, 3, 4, 5, 6, 7, 8, 9, 10, 11, 12, 13, 14, 15, 16, 17], none⟩] [] [1, 2, 7, 240, 237, 239, 238, 234, 231, 233, 232, 10, 12, 13, 19, 20, 224, 225, 226, 227, 228, 229, 230, 235, 236, 241])
 .ret))))))))))))))))⟩

-- overseer/overseerlaw48.InvariantIncidence
def s7 : SFn := ⟨95, [.tmp 6],
 (.seq (.region [⟨(some 3), .box .dyn (.t 0), [], none⟩,
   ⟨(some 4), .box .dyn (.t 1), [], none⟩,
   ⟨(some 6), .mov (.c (.bool false)), [], none⟩] [] [0, 1, 6])
 (.seq (.seq (.region [⟨(some 18), .call .pure (.f 12) [], [], none⟩,
   ⟨(some 19), .un .not (.t 18), [0], none⟩] [] [18])
 (.cond (.t 19)
  (.seq (.region [⟨(some 6), .mov (.c (.bool false)), [], none⟩] [] [2, 3, 4, 19])
  .ret)
  .skip))
 (.seq (.region [⟨(some 20), .load (some 7) (.t 3), [], none⟩,
   ⟨(some 21), .call .pure (.f 13) [(.t 20)], [0], none⟩,
   ⟨(some 7), .alloc .dyn (.agg [.nilsl, .nilsl]), [], none⟩,
   ⟨none, .store 2 (.t 7) (.t 21), [2, 1, 1, 0, 1, 2], none⟩] [] [6, 3, 19, 20, 21])
 (.seq (.region [⟨(some 23), .load (some 2) (.t 7), [], none⟩,
   ⟨(some 24), .call .pure (.f 27) [(.t 23)], [0], none⟩,
   ⟨(some 22), .mov (.t 24), [1], none⟩,
   ⟨(some 25), .extract 0 (.t 22), [2], none⟩,
   ⟨(some 26), .extract 1 (.t 22), [2], none⟩,
   ⟨(some 8), .mov (.t 25), [3, 1, 0, 1, 2, 3], none⟩,
   ⟨(some 9), .mov (.t 26), [4, 5, 0, 1, 2, 3, 4, 5], none⟩] [] [23, 24, 22, 25, 26])
 (.seq (.region [⟨(some 27), .mov (.t 2), [], none⟩,
   ⟨(some 28), .bin .rem (.t 27) (.c (.int .u8 2)), [0], none⟩,
   ⟨(some 29), .conv .i64 (.t 28), [1], none⟩,
   ⟨(some 30), .bin .add (.c (.int .i64 1)) (.t 29), [2], none⟩,
   ⟨(some 10), .mov (.t 30), [3, 0, 1, 2, 3], none⟩] [] [2, 27, 28, 29, 30])
 (.seq (.region [⟨(some 31), .load (some 2) (.t 7), [], none⟩,
   ⟨(some 32), .mov (.t 10), [], none⟩,
   ⟨(some 33), .call .pure (.f 17) [(.t 31), (.t 32)], [0, 1], none⟩,
   ⟨(some 11), .mov (.t 33), [2, 2, 0, 1, 2], none⟩] [] [31, 32, 33])
 (.seq (.region [⟨(some 12), .mov (.c .nilsl), [], none⟩,
   ⟨(some 13), .mov (.c .nilsl), [0], none⟩] [] [])
 (.seq (.seq (.region [⟨(some 14), .mov (.c (.int .i64 0)), [], none⟩] [] [])
 (.block 0 (.loop (.seq (.seq (.region [⟨(some 34), .mov (.t 14), [], none⟩,
   ⟨(some 35), .mov (.t 11), [], none⟩,
   ⟨(some 36), .len 1 (.t 35), [1], none⟩,
   ⟨(some 37), .bin .lss (.t 34) (.t 36), [0, 2], none⟩] [] [34, 35, 36])
 (.cond (.t 37)
  .skip
  (.exit 0)))
 (.seq (.block 1 (.seq (.region [⟨(some 40), .mov (.t 12), [], none⟩,
   ⟨(some 41), .mov (.t 14), [], none⟩,
   ⟨(some 42), .iaddr (some 5) 1 (.t 4) (.t 41), [1], none⟩,
   ⟨(some 43), .load none (.t 42), [2], none⟩,
   ⟨(some 44), .bin .rem (.t 43) (.c (.int .u8 4)), [3], none⟩,
   ⟨(some 45), .conv .i64 (.t 44), [4], none⟩,
   ⟨(some 46), .bslice false .dyn 1 1 [(.int .i64 0)] [(0, 1, (.t 45))], [5], none⟩,
   ⟨(some 47), .append .dyn 1 8 (.t 40) (.t 46), [0, 6], none⟩,
   ⟨(some 12), .mov (.t 47), [7, 7, 0, 1, 2, 3, 4, 5, 6, 7], none⟩] [] [37, 40, 41, 42, 43, 44, 45, 46, 47])
 (.seq (.region [⟨(some 48), .mov (.t 14), [], none⟩,
   ⟨(some 49), .iaddr (some 5) 1 (.t 4) (.t 48), [0], none⟩,
   ⟨(some 50), .load none (.t 49), [1], none⟩,
   ⟨(some 51), .bin .rem (.t 50) (.c (.int .u8 4)), [2], none⟩,
   ⟨(some 52), .bin .neq (.t 51) (.c (.int .u8 0)), [3], none⟩] [] [48, 49, 50, 51])
 (.cond (.t 52)
  (.region [⟨(some 53), .mov (.t 13), [], none⟩,
    ⟨(some 54), .mov (.t 14), [], none⟩,
    ⟨(some 55), .bslice false .dyn 1 1 [(.int .i64 0)] [(0, 1, (.t 54))], [1], none⟩,
    ⟨(some 56), .append .dyn 1 8 (.t 53) (.t 55), [0, 2], none⟩,
    ⟨(some 13), .mov (.t 56), [3, 3, 0, 1, 2, 3], none⟩] [] [52, 53, 54, 55, 56])
  .skip))))
 (.region [⟨(some 38), .mov (.t 14), [], none⟩,
   ⟨(some 39), .bin .add (.t 38) (.c (.int .i64 1)), [0], none⟩,
   ⟨(some 14), .mov (.t 39), [1, 0, 1], none⟩] [] [52, 38, 39]))))))
 (.seq (.region [⟨(some 58), .load (some 2) (.t 7), [], none⟩,
   ⟨(some 59), .mov (.t 10), [], none⟩,
   ⟨(some 60), .mov (.t 12), [], none⟩,
   ⟨(some 61), .call .pure (.f 28) [(.t 58), (.t 59), (.t 60)], [0, 1, 2], none⟩,
   ⟨(some 57), .mov (.t 61), [3], none⟩,
   ⟨(some 62), .extract 0 (.t 57), [4], none⟩,
   ⟨(some 63), .extract 1 (.t 57), [4], none⟩,
   ⟨(some 15), .mov (.t 62), [5, 3, 0, 1, 2, 3, 4, 5], none⟩,
   ⟨(some 16), .mov (.t 63), [6, 7, 0, 1, 2, 3, 4, 5, 6, 7], none⟩] [] [4, 10, 14, 58, 59, 60, 61, 57, 62, 63])
 (.seq (.region [⟨(some 64), .mov (.t 12), [], none⟩,
   ⟨(some 65), .call .pure (.f 20) [(.t 64)], [0], none⟩,
   ⟨(some 66), .un .not (.t 65), [1], none⟩,
   ⟨(some 67), .mov (.t 66), [2, 1], none⟩,
   ⟨(some 68), .mov (.t 11), [3], (some (67, true))⟩,
   ⟨(some 69), .mov (.t 12), [3], (some (67, true))⟩,
   ⟨(some 70), .call .pure (.f 21) [(.t 68), (.t 69)], [4, 5, 3, 3], (some (67, true))⟩,
   ⟨(some 71), .pick (.t 67) (.t 70) (.c (.bool false)), [3, 6], none⟩,
   ⟨(some 17), .mov (.t 71), [7, 6, 0, 1, 2, 3, 4, 5, 6, 7], none⟩] [] [11, 70, 68, 69, 64, 65, 66, 67, 71])
 (.seq (.region [⟨(some 72), .mov (.t 9), [], none⟩,
   ⟨(some 73), .bin .eql (.t 72) (.c (.int .i64 0)), [0], none⟩,
   ⟨(some 74), .mov (.t 73), [1], none⟩,
   ⟨(some 75), .mov (.t 8), [2], (some (74, true))⟩,
   ⟨(some 76), .load (some 2) (.t 7), [2], (some (74, true))⟩,
   ⟨(some 77), .call .pure (.f 22) [(.t 76)], [4, 2, 2], (some (74, true))⟩,
   ⟨(some 78), .call .pure (.f 18) [(.t 75), (.t 77)], [3, 5, 5, 2], (some (74, true))⟩,
   ⟨(some 79), .pick (.t 74) (.t 78) (.c (.bool false)), [2, 6], none⟩,
   ⟨(some 80), .mov (.t 79), [7, 6], none⟩,
   ⟨(some 81), .mov (.t 16), [8], (some (80, true))⟩,
   ⟨(some 82), .bin .eql (.t 81) (.c (.int .i64 0)), [9, 8], (some (80, true))⟩,
   ⟨(some 83), .pick (.t 80) (.t 82) (.c (.bool false)), [8, 10], none⟩,
   ⟨(some 84), .mov (.t 83), [11, 8], none⟩,
   ⟨(some 85), .mov (.t 15), [12], (some (84, true))⟩,
   ⟨(some 86), .mov (.t 17), [12], (some (84, true))⟩,
   ⟨(some 87), .eq (.flat false [.b]) false (.t 85) (.t 86), [13, 14, 12], (some (84, true))⟩,
   ⟨(some 88), .pick (.t 84) (.t 87) (.c (.bool false)), [12, 15], none⟩,
   ⟨(some 89), .mov (.t 88), [16, 12], none⟩,
   ⟨(some 90), .mov (.t 12), [17], (some (89, true))⟩,
   ⟨(some 91), .call .pure (.f 30) [(.t 90)], [18, 17, 17], (some (89, true))⟩,
   ⟨(some 92), .mov (.t 13), [17], (some (89, true))⟩,
   ⟨(some 93), .call .pure (.f 29) [(.t 91), (.t 92)], [19, 20, 19, 17], (some (89, true))⟩,
   ⟨(some 94), .pick (.t 89) (.t 93) (.c (.bool false)), [17, 21], none⟩,
   ⟨(some 6), .mov (.t 94), [22, 21, 0, 1, 2, 3, 4, 5, 6, 7, 8, 9, 10, 11, 12, 13, 14, 15, 16, 17, 18, 19, 20, 21, 22], none⟩] [] [7, 8, 9, 12, 13, 93, 91, 92, 90, 87, 85, 86, 82, 81, 78, 75, 77, 76, 15, 16, 17, 72, 73, 74, 79, 80, 83, 84, 88, 89, 94])
 .ret)))))))))))⟩

-- overseer/overseerlaw48.Make
def s13 : SFn := ⟨89, [.cell 2 (some 2)],
 (.seq (.region [⟨(some 1), .box .dyn (.t 0), [], none⟩,
   ⟨(some 2), .alloc .dyn (.agg [.nilsl, .nilsl]), [], none⟩] [] [0])
 (.seq (.region [⟨(some 3), .alloc .dyn (.agg [.nilsl, .nilsl]), [], none⟩] [] [])
 (.seq (.seq (.region [⟨(some 4), .mov (.c (.int .i64 0)), [], none⟩] [] [])
 (.block 0 (.loop (.seq (.seq (.region [⟨(some 9), .mov (.t 4), [], none⟩,
   ⟨(some 10), .faddr 0 (.t 1), [], none⟩,
   ⟨(some 11), .load none (.t 10), [1], none⟩,
   ⟨(some 12), .bin .rem (.t 11) (.c (.int .u8 5)), [2], none⟩,
   ⟨(some 13), .conv .i64 (.t 12), [3], none⟩,
   ⟨(some 14), .bin .add (.c (.int .i64 1)) (.t 13), [4], none⟩,
   ⟨(some 15), .bin .lss (.t 9) (.t 14), [0, 5], none⟩] [] [9, 10, 11, 12, 13, 14])
 (.cond (.t 15)
  .skip
  (.exit 0)))
 (.seq (.block 1 (.region [⟨(some 18), .faddr 0 (.t 3), [], none⟩,
   ⟨(some 19), .load none (.t 18), [0], none⟩,
   ⟨(some 20), .mov (.t 4), [], none⟩,
   ⟨(some 21), .faddr 1 (.t 1), [], none⟩,
   ⟨(some 22), .iaddr (some 5) 1 (.t 21) (.t 20), [3, 2], none⟩,
   ⟨(some 23), .load none (.t 22), [4], none⟩,
   ⟨(some 24), .bin .rem (.t 23) (.c (.int .u8 4)), [5], none⟩,
   ⟨(some 25), .conv .i64 (.t 24), [6], none⟩,
   ⟨(some 26), .bslice false .dyn 1 1 [(.int .i64 0)] [(0, 1, (.t 25))], [7], none⟩,
   ⟨(some 27), .append .dyn 1 8 (.t 19) (.t 26), [1, 8], none⟩,
   ⟨(some 28), .faddr 0 (.t 3), [0, 1, 2, 3, 4, 5, 6, 7, 8, 9], none⟩,
   ⟨none, .store 1 (.t 28) (.t 27), [10, 9, 9, 0, 1, 2, 3, 4, 5, 6, 7, 8, 9], none⟩] [] [15, 18, 19, 20, 21, 22, 23, 24, 25, 26, 27, 28]))
 (.region [⟨(some 16), .mov (.t 4), [], none⟩,
   ⟨(some 17), .bin .add (.t 16) (.c (.int .i64 1)), [0], none⟩,
   ⟨(some 4), .mov (.t 17), [1, 0, 1], none⟩] [] [16, 17]))))))
 (.seq (.seq (.region [⟨(some 5), .mov (.c (.int .i64 0)), [], none⟩] [] [4])
 (.block 2 (.loop (.seq (.seq (.region [⟨(some 29), .mov (.t 5), [], none⟩,
   ⟨(some 30), .faddr 6 (.t 1), [], none⟩,
   ⟨(some 31), .load none (.t 30), [1], none⟩,
   ⟨(some 32), .len 1 (.t 31), [2], none⟩,
   ⟨(some 33), .bin .lss (.t 29) (.t 32), [0, 3], none⟩,
   ⟨(some 34), .mov (.t 33), [4], none⟩,
   ⟨(some 35), .mov (.t 5), [5], (some (34, true))⟩,
   ⟨(some 36), .bin .lss (.t 35) (.c (.int .i64 5)), [6, 5], (some (34, true))⟩,
   ⟨(some 37), .pick (.t 34) (.t 36) (.c (.bool false)), [5, 7], none⟩] [] [29, 30, 31, 32, 33, 34])
 (.cond (.t 37)
  .skip
  (.exit 2)))
 (.seq (.block 3 (.seq (.region [⟨(some 40), .mov (.t 5), [], none⟩,
   ⟨(some 41), .build [(.int .i64 0), .nilsl, .nilsl] [(0, 1, (.t 40))], [0], none⟩,
   ⟨(some 6), .alloc .dyn (.agg [(.int .i64 0), .nilsl, .nilsl]), [], none⟩,
   ⟨none, .store 3 (.t 6) (.t 41), [2, 1, 0, 1, 2], none⟩] [] [37, 40, 41])
 (.seq (.seq (.region [⟨(some 7), .mov (.c (.int .i64 0)), [], none⟩] [] [])
 (.block 4 (.loop (.seq (.seq (.region [⟨(some 42), .mov (.t 7), [], none⟩,
   ⟨(some 43), .faddr 0 (.t 3), [], none⟩,
   ⟨(some 44), .load none (.t 43), [1], none⟩,
   ⟨(some 45), .len 1 (.t 44), [2], none⟩,
   ⟨(some 46), .bin .lss (.t 42) (.t 45), [0, 3], none⟩] [] [42, 43, 44, 45])
 (.cond (.t 46)
  .skip
  (.exit 4)))
 (.seq (.block 5 (.seq (.region [⟨(some 49), .faddr 6 (.t 1), [], none⟩,
   ⟨(some 50), .load none (.t 49), [0], none⟩,
   ⟨(some 51), .mov (.t 5), [], none⟩,
   ⟨(some 52), .mov (.t 7), [], none⟩,
   ⟨(some 53), .iaddr none 5 (.t 50) (.t 51), [1, 2], none⟩,
   ⟨(some 54), .iaddr (some 5) 1 (.t 53) (.t 52), [4, 3], none⟩,
   ⟨(some 55), .load none (.t 54), [5], none⟩,
   ⟨(some 56), .bin .rem (.t 55) (.c (.int .u8 9)), [6], none⟩,
   ⟨(some 57), .conv .i64 (.t 56), [7], none⟩,
   ⟨(some 8), .mov (.t 57), [8, 0, 1, 2, 3, 4, 5, 6, 7, 8], none⟩] [] [46, 49, 50, 51, 52, 53, 54, 55, 56, 57])
 (.seq (.seq (.region [⟨(some 58), .mov (.t 8), [], none⟩,
   ⟨(some 59), .bin .quo (.t 58) (.c (.int .i64 3)), [0], none⟩,
   ⟨(some 60), .bin .gtr (.t 59) (.c (.int .i64 0)), [1], none⟩] [] [58, 59])
 (.cond (.t 60)
  (.region [⟨(some 61), .faddr 1 (.t 6), [], none⟩,
    ⟨(some 62), .load none (.t 61), [0], none⟩,
    ⟨(some 63), .mov (.t 7), [], none⟩,
    ⟨(some 64), .mov (.t 8), [], none⟩,
    ⟨(some 65), .bin .quo (.t 64) (.c (.int .i64 3)), [3], none⟩,
    ⟨(some 66), .build [(.int .i64 0), (.int .i64 0)] [(0, 1, (.t 63)), (1, 1, (.t 65))], [2, 4], none⟩,
    ⟨(some 67), .bslice false .dyn 2 1 [(.int .i64 0), (.int .i64 0)] [(0, 2, (.t 66))], [5], none⟩,
    ⟨(some 68), .append .dyn 2 16 (.t 62) (.t 67), [1, 6], none⟩,
    ⟨(some 69), .faddr 1 (.t 6), [0, 1, 2, 3, 4, 5, 6, 7], none⟩,
    ⟨none, .store 1 (.t 69) (.t 68), [8, 7, 7, 0, 1, 2, 3, 4, 5, 6, 7], none⟩] [] [60, 61, 62, 63, 64, 65, 66, 67, 68, 69])
  .skip))
 (.seq (.region [⟨(some 70), .mov (.t 8), [], none⟩,
   ⟨(some 71), .bin .rem (.t 70) (.c (.int .i64 3)), [0], none⟩,
   ⟨(some 72), .bin .gtr (.t 71) (.c (.int .i64 0)), [1], none⟩] [] [60, 70, 71])
 (.cond (.t 72)
  (.region [⟨(some 73), .faddr 2 (.t 6), [], none⟩,
    ⟨(some 74), .load none (.t 73), [0], none⟩,
    ⟨(some 75), .mov (.t 7), [], none⟩,
    ⟨(some 76), .mov (.t 8), [], none⟩,
    ⟨(some 77), .bin .rem (.t 76) (.c (.int .i64 3)), [3], none⟩,
    ⟨(some 78), .build [(.int .i64 0), (.int .i64 0)] [(0, 1, (.t 75)), (1, 1, (.t 77))], [2, 4], none⟩,
    ⟨(some 79), .bslice false .dyn 2 1 [(.int .i64 0), (.int .i64 0)] [(0, 2, (.t 78))], [5], none⟩,
    ⟨(some 80), .append .dyn 2 16 (.t 74) (.t 79), [1, 6], none⟩,
    ⟨(some 81), .faddr 2 (.t 6), [0, 1, 2, 3, 4, 5, 6, 7], none⟩,
    ⟨none, .store 1 (.t 81) (.t 80), [8, 7, 7, 0, 1, 2, 3, 4, 5, 6, 7], none⟩] [] [8, 72, 73, 74, 75, 76, 77, 78, 79, 80, 81])
  .skip)))))
 (.region [⟨(some 47), .mov (.t 7), [], none⟩,
   ⟨(some 48), .bin .add (.t 47) (.c (.int .i64 1)), [0], none⟩,
   ⟨(some 7), .mov (.t 48), [1, 0, 1], none⟩] [] [8, 72, 47, 48]))))))
 (.region [⟨(some 82), .faddr 1 (.t 3), [], none⟩,
   ⟨(some 83), .load none (.t 82), [0], none⟩,
   ⟨(some 84), .load (some 3) (.t 6), [], none⟩,
   ⟨(some 85), .bslice false .dyn 3 1 [(.int .i64 0), .nilsl, .nilsl] [(0, 3, (.t 84))], [2], none⟩,
   ⟨(some 86), .append .dyn 3 56 (.t 83) (.t 85), [1, 3], none⟩,
   ⟨(some 87), .faddr 1 (.t 3), [0, 1, 2, 3, 4], none⟩,
   ⟨none, .store 1 (.t 87) (.t 86), [5, 4, 4, 0, 1, 2, 3, 4], none⟩] [] [6, 7, 82, 83, 84, 85, 86, 87]))))
 (.region [⟨(some 38), .mov (.t 5), [], none⟩,
   ⟨(some 39), .bin .add (.t 38) (.c (.int .i64 1)), [0], none⟩,
   ⟨(some 5), .mov (.t 39), [1, 0, 1], none⟩] [] [38, 39]))))))
 (.seq (.region [⟨(some 88), .load (some 2) (.t 3), [], none⟩,
   ⟨none, .store 2 (.t 2) (.t 88), [0, 0], none⟩] [] [1, 3, 36, 35, 5, 88])
 .ret)))))⟩

-- overseer/overseerlaw48.rows
def s17 : SFn := ⟨43, [.tmp 4],
 (.seq (.region [⟨(some 2), .box .dyn (.t 0), [], none⟩,
   ⟨(some 4), .mov (.c .nilsl), [], none⟩] [] [0, 4])
 (.seq (.region [⟨(some 10), .load (some 2) (.t 2), [], none⟩,
   ⟨(some 11), .call .pure (.f 22) [(.t 10)], [0], none⟩,
   ⟨(some 5), .mov (.t 11), [1, 1, 0, 1], none⟩] [] [10, 11])
 (.seq (.seq (.region [⟨(some 12), .mov (.t 1), [], none⟩,
   ⟨(some 13), .bin .eql (.t 12) (.c (.int .i64 1)), [0], none⟩] [] [1, 12])
 (.cond (.t 13)
  (.seq (.region [⟨(some 14), .mov (.t 5), [], none⟩,
    ⟨(some 4), .mov (.t 14), [0, 0], none⟩] [] [2, 5, 13, 14])
  .ret)
  .skip))
 (.seq (.region [⟨(some 6), .mov (.c .nilsl), [], none⟩] [] [4, 13])
 (.seq (.seq (.region [⟨(some 7), .mov (.c (.int .i64 0)), [], none⟩] [] [])
 (.block 0 (.loop (.seq (.seq (.region [⟨(some 15), .mov (.t 7), [], none⟩,
   ⟨(some 16), .faddr 1 (.t 2), [], none⟩,
   ⟨(some 17), .load none (.t 16), [1], none⟩,
   ⟨(some 18), .len 1 (.t 17), [2], none⟩,
   ⟨(some 19), .bin .lss (.t 15) (.t 18), [0, 3], none⟩] [] [15, 16, 17, 18])
 (.cond (.t 19)
  .skip
  (.exit 0)))
 (.seq (.block 1 (.seq (.region [⟨(some 8), .mov (.c .nilsl), [], none⟩] [] [19])
 (.seq (.seq (.region [⟨(some 9), .mov (.c (.int .i64 0)), [], none⟩] [] [])
 (.block 2 (.loop (.seq (.seq (.region [⟨(some 22), .mov (.t 9), [], none⟩,
   ⟨(some 23), .mov (.t 5), [], none⟩,
   ⟨(some 24), .len 1 (.t 23), [1], none⟩,
   ⟨(some 25), .bin .lss (.t 22) (.t 24), [0, 2], none⟩] [] [22, 23, 24])
 (.cond (.t 25)
  .skip
  (.exit 2)))
 (.seq (.block 3 (.region [⟨(some 28), .mov (.t 8), [], none⟩,
   ⟨(some 29), .mov (.t 5), [], none⟩,
   ⟨(some 30), .mov (.t 9), [], none⟩,
   ⟨(some 31), .iaddr none 1 (.t 29) (.t 30), [1, 2], none⟩,
   ⟨(some 32), .load none (.t 31), [3], none⟩,
   ⟨(some 33), .mov (.t 7), [], none⟩,
   ⟨(some 34), .iaddr none 1 (.t 32) (.t 33), [4, 5], none⟩,
   ⟨(some 35), .load none (.t 34), [6], none⟩,
   ⟨(some 36), .bslice false .dyn 1 1 [(.int .i64 0)] [(0, 1, (.t 35))], [7], none⟩,
   ⟨(some 37), .append .dyn 1 8 (.t 28) (.t 36), [0, 8], none⟩,
   ⟨(some 8), .mov (.t 37), [9, 9, 0, 1, 2, 3, 4, 5, 6, 7, 8, 9], none⟩] [] [25, 28, 29, 30, 31, 32, 33, 34, 35, 36, 37]))
 (.region [⟨(some 26), .mov (.t 9), [], none⟩,
   ⟨(some 27), .bin .add (.t 26) (.c (.int .i64 1)), [0], none⟩,
   ⟨(some 9), .mov (.t 27), [1, 0, 1], none⟩] [] [26, 27]))))))
 (.region [⟨(some 38), .mov (.t 6), [], none⟩,
   ⟨(some 39), .mov (.t 8), [], none⟩,
   ⟨(some 40), .bslice false .dyn 1 1 [.nilsl] [(0, 1, (.t 39))], [1], none⟩,
   ⟨(some 41), .append .dyn 1 24 (.t 38) (.t 40), [0, 2], none⟩,
   ⟨(some 6), .mov (.t 41), [3, 3, 0, 1, 2, 3], none⟩] [] [8, 9, 38, 39, 40, 41]))))
 (.region [⟨(some 20), .mov (.t 7), [], none⟩,
   ⟨(some 21), .bin .add (.t 20) (.c (.int .i64 1)), [0], none⟩,
   ⟨(some 7), .mov (.t 21), [1, 0, 1], none⟩] [] [20, 21]))))))
 (.seq (.region [⟨(some 42), .mov (.t 6), [], none⟩,
   ⟨(some 4), .mov (.t 42), [0, 0], none⟩] [] [2, 5, 6, 7, 42])
 .ret))))))⟩

-- overseer/overseerlaw48.sameLists
def s18 : SFn := ⟨27, [.tmp 4],
 (.seq (.region [⟨(some 4), .mov (.c (.bool false)), [], none⟩] [] [4])
 (.seq (.seq (.region [⟨(some 6), .mov (.t 0), [], none⟩,
   ⟨(some 7), .len 1 (.t 6), [0], none⟩,
   ⟨(some 8), .mov (.t 1), [], none⟩,
   ⟨(some 9), .len 1 (.t 8), [2], none⟩,
   ⟨(some 10), .bin .neq (.t 7) (.t 9), [1, 3], none⟩] [] [6, 7, 8, 9])
 (.cond (.t 10)
  (.seq (.region [⟨(some 4), .mov (.c (.bool false)), [], none⟩] [] [0, 1, 10])
  .ret)
  .skip))
 (.seq (.seq (.region [⟨(some 5), .mov (.c (.int .i64 0)), [], none⟩] [] [4, 10])
 (.block 0 (.loop (.seq (.seq (.region [⟨(some 11), .mov (.t 5), [], none⟩,
   ⟨(some 12), .mov (.t 0), [], none⟩,
   ⟨(some 13), .len 1 (.t 12), [1], none⟩,
   ⟨(some 14), .bin .lss (.t 11) (.t 13), [0, 2], none⟩] [] [11, 12, 13])
 (.cond (.t 14)
  .skip
  (.exit 0)))
 (.seq (.block 1 (.seq (.region [⟨(some 17), .mov (.t 0), [], none⟩,
   ⟨(some 18), .mov (.t 5), [], none⟩,
   ⟨(some 19), .iaddr none 1 (.t 17) (.t 18), [0, 1], none⟩,
   ⟨(some 20), .load none (.t 19), [2], none⟩,
   ⟨(some 21), .mov (.t 1), [], none⟩,
   ⟨(some 22), .mov (.t 5), [], none⟩,
   ⟨(some 23), .iaddr none 1 (.t 21) (.t 22), [4, 5], none⟩,
   ⟨(some 24), .load none (.t 23), [6], none⟩,
   ⟨(some 25), .call .pure (.f 29) [(.t 20), (.t 24)], [3, 7], none⟩,
   ⟨(some 26), .un .not (.t 25), [8], none⟩] [] [14, 17, 18, 19, 20, 21, 22, 23, 24, 25])
 (.cond (.t 26)
  (.seq (.region [⟨(some 4), .mov (.c (.bool false)), [], none⟩] [] [0, 1, 5, 26])
  .ret)
  .skip)))
 (.region [⟨(some 15), .mov (.t 5), [], none⟩,
   ⟨(some 16), .bin .add (.t 15) (.c (.int .i64 1)), [0], none⟩,
   ⟨(some 5), .mov (.t 16), [1, 0, 1], none⟩] [] [4, 26, 15, 16]))))))
 (.seq (.region [⟨(some 4), .mov (.c (.bool true)), [], none⟩] [] [0, 1, 5])
 .ret))))⟩

-- overseer/overseerlaw48.checkWeights
def s19 : SFn := ⟨22, [.tmp 4],
 (.seq (.region [⟨(some 4), .mov (.c (.int .i64 0)), [], none⟩] [] [4])
 (.seq (.seq (.region [⟨(some 6), .mov (.t 0), [], none⟩,
   ⟨(some 7), .len 1 (.t 6), [0], none⟩,
   ⟨(some 8), .mov (.t 1), [], none⟩,
   ⟨(some 9), .bin .neq (.t 7) (.t 8), [1, 2], none⟩] [] [1, 6, 7, 8])
 (.cond (.t 9)
  (.seq (.region [⟨(some 4), .mov (.c (.int .i64 4)), [], none⟩] [] [0, 9])
  .ret)
  .skip))
 (.seq (.seq (.region [⟨(some 5), .mov (.c (.int .i64 0)), [], none⟩] [] [4, 9])
 (.block 0 (.loop (.seq (.seq (.region [⟨(some 10), .mov (.t 5), [], none⟩,
   ⟨(some 11), .mov (.t 0), [], none⟩,
   ⟨(some 12), .len 1 (.t 11), [1], none⟩,
   ⟨(some 13), .bin .lss (.t 10) (.t 12), [0, 2], none⟩] [] [10, 11, 12])
 (.cond (.t 13)
  .skip
  (.exit 0)))
 (.seq (.block 1 (.seq (.region [⟨(some 16), .mov (.t 0), [], none⟩,
   ⟨(some 17), .mov (.t 5), [], none⟩,
   ⟨(some 18), .iaddr none 1 (.t 16) (.t 17), [0, 1], none⟩,
   ⟨(some 19), .load none (.t 18), [2], none⟩,
   ⟨(some 20), .call .pure (.f 32) [(.t 19)], [3], none⟩,
   ⟨(some 21), .un .not (.t 20), [4], none⟩] [] [13, 16, 17, 18, 19, 20])
 (.cond (.t 21)
  (.seq (.region [⟨(some 4), .mov (.c (.int .i64 2)), [], none⟩] [] [0, 5, 21])
  .ret)
  .skip)))
 (.region [⟨(some 14), .mov (.t 5), [], none⟩,
   ⟨(some 15), .bin .add (.t 14) (.c (.int .i64 1)), [0], none⟩,
   ⟨(some 5), .mov (.t 15), [1, 0, 1], none⟩] [] [4, 21, 14, 15]))))))
 (.seq (.region [⟨(some 4), .mov (.c (.int .i64 0)), [], none⟩] [] [0, 5])
 .ret))))⟩

-- overseer/overseerlaw48.zero
def s20 : SFn := ⟨15, [.tmp 2],
 (.seq (.region [⟨(some 2), .mov (.c (.bool false)), [], none⟩] [] [2])
 (.seq (.seq (.region [⟨(some 3), .mov (.c (.int .i64 0)), [], none⟩] [] [])
 (.block 0 (.loop (.seq (.seq (.region [⟨(some 4), .mov (.t 3), [], none⟩,
   ⟨(some 5), .mov (.t 0), [], none⟩,
   ⟨(some 6), .len 1 (.t 5), [1], none⟩,
   ⟨(some 7), .bin .lss (.t 4) (.t 6), [0, 2], none⟩] [] [4, 5, 6])
 (.cond (.t 7)
  .skip
  (.exit 0)))
 (.seq (.block 1 (.seq (.region [⟨(some 10), .mov (.t 0), [], none⟩,
   ⟨(some 11), .mov (.t 3), [], none⟩,
   ⟨(some 12), .iaddr none 1 (.t 10) (.t 11), [0, 1], none⟩,
   ⟨(some 13), .load none (.t 12), [2], none⟩,
   ⟨(some 14), .bin .neq (.t 13) (.c (.int .i64 0)), [3], none⟩] [] [7, 10, 11, 12, 13])
 (.cond (.t 14)
  (.seq (.region [⟨(some 2), .mov (.c (.bool false)), [], none⟩] [] [0, 3, 14])
  .ret)
  .skip)))
 (.region [⟨(some 8), .mov (.t 3), [], none⟩,
   ⟨(some 9), .bin .add (.t 8) (.c (.int .i64 1)), [0], none⟩,
   ⟨(some 3), .mov (.t 9), [1, 0, 1], none⟩] [] [2, 14, 8, 9]))))))
 (.seq (.region [⟨(some 2), .mov (.c (.bool true)), [], none⟩] [] [0, 3])
 .ret)))⟩

-- overseer/overseerlaw48.balanced
def s21 : SFn := ⟨43, [.tmp 4],
 (.seq (.region [⟨(some 4), .mov (.c (.bool false)), [], none⟩] [] [4])
 (.seq (.seq (.region [⟨(some 5), .mov (.c (.int .i64 0)), [], none⟩] [] [])
 (.block 0 (.loop (.seq (.seq (.region [⟨(some 8), .mov (.t 0), [], none⟩,
   ⟨(some 9), .len 1 (.t 8), [0], none⟩,
   ⟨(some 10), .bin .gtr (.t 9) (.c (.int .i64 0)), [1], none⟩,
   ⟨(some 11), .mov (.t 10), [2], none⟩,
   ⟨(some 12), .mov (.t 5), [3], (some (11, true))⟩,
   ⟨(some 13), .mov (.t 0), [3], (some (11, true))⟩,
   ⟨(some 14), .iaddr none 1 (.t 13) (.c (.int .i64 0)), [5, 3], (some (11, true))⟩,
   ⟨(some 15), .load none (.t 14), [6, 3], (some (11, true))⟩,
   ⟨(some 16), .len 1 (.t 15), [7, 3], (some (11, true))⟩,
   ⟨(some 17), .bin .lss (.t 12) (.t 16), [4, 8, 3], (some (11, true))⟩,
   ⟨(some 18), .pick (.t 11) (.t 17) (.c (.bool false)), [3, 9], none⟩] [] [8, 9, 10, 11])
 (.cond (.t 18)
  .skip
  (.exit 0)))
 (.seq (.block 1 (.seq (.region [⟨(some 6), .mov (.c (.int .i64 0)), [], none⟩] [] [18])
 (.seq (.seq (.region [⟨(some 7), .mov (.c (.int .i64 0)), [], none⟩] [] [])
 (.block 2 (.loop (.seq (.seq (.region [⟨(some 21), .mov (.t 7), [], none⟩,
   ⟨(some 22), .mov (.t 0), [], none⟩,
   ⟨(some 23), .len 1 (.t 22), [1], none⟩,
   ⟨(some 24), .bin .lss (.t 21) (.t 23), [0, 2], none⟩] [] [21, 22, 23])
 (.cond (.t 24)
  .skip
  (.exit 2)))
 (.seq (.block 3 (.region [⟨(some 27), .mov (.t 6), [], none⟩,
   ⟨(some 28), .mov (.t 1), [], none⟩,
   ⟨(some 29), .mov (.t 7), [], none⟩,
   ⟨(some 30), .iaddr none 1 (.t 28) (.t 29), [1, 2], none⟩,
   ⟨(some 31), .load none (.t 30), [3], none⟩,
   ⟨(some 32), .mov (.t 0), [], none⟩,
   ⟨(some 33), .mov (.t 7), [], none⟩,
   ⟨(some 34), .iaddr none 1 (.t 32) (.t 33), [5, 6], none⟩,
   ⟨(some 35), .load none (.t 34), [7], none⟩,
   ⟨(some 36), .mov (.t 5), [], none⟩,
   ⟨(some 37), .iaddr none 1 (.t 35) (.t 36), [8, 9], none⟩,
   ⟨(some 38), .load none (.t 37), [10], none⟩,
   ⟨(some 39), .bin .mul (.t 31) (.t 38), [4, 11], none⟩,
   ⟨(some 40), .bin .add (.t 27) (.t 39), [0, 12], none⟩,
   ⟨(some 6), .mov (.t 40), [13, 0, 1, 2, 3, 4, 5, 6, 7, 8, 9, 10, 11, 12, 13], none⟩] [] [24, 27, 28, 29, 30, 31, 32, 33, 34, 35, 36, 37, 38, 39, 40]))
 (.region [⟨(some 25), .mov (.t 7), [], none⟩,
   ⟨(some 26), .bin .add (.t 25) (.c (.int .i64 1)), [0], none⟩,
   ⟨(some 7), .mov (.t 26), [1, 0, 1], none⟩] [] [25, 26]))))))
 (.seq (.region [⟨(some 41), .mov (.t 6), [], none⟩,
   ⟨(some 42), .bin .neq (.t 41) (.c (.int .i64 0)), [0], none⟩] [] [6, 7, 41])
 (.cond (.t 42)
  (.seq (.region [⟨(some 4), .mov (.c (.bool false)), [], none⟩] [] [0, 1, 5, 17, 12, 16, 15, 14, 13, 42])
  .ret)
  .skip)))))
 (.region [⟨(some 19), .mov (.t 5), [], none⟩,
   ⟨(some 20), .bin .add (.t 19) (.c (.int .i64 1)), [0], none⟩,
   ⟨(some 5), .mov (.t 20), [1, 0, 1], none⟩] [] [4, 42, 19, 20]))))))
 (.seq (.region [⟨(some 4), .mov (.c (.bool true)), [], none⟩] [] [0, 1, 5, 17, 12, 16, 15, 14, 13])
 .ret)))⟩

-- overseer/overseerlaw48.incidence
def s22 : SFn := ⟨46, [.tmp 2],
 (.seq (.region [⟨(some 1), .box .dyn (.t 0), [], none⟩,
   ⟨(some 2), .mov (.c .nilsl), [], none⟩] [] [0, 2])
 (.seq (.region [⟨(some 3), .mov (.c .nilsl), [], none⟩] [] [])
 (.seq (.seq (.region [⟨(some 4), .mov (.c (.int .i64 0)), [], none⟩] [] [])
 (.block 0 (.loop (.seq (.seq (.region [⟨(some 7), .mov (.t 4), [], none⟩,
   ⟨(some 8), .faddr 0 (.t 1), [], none⟩,
   ⟨(some 9), .load none (.t 8), [1], none⟩,
   ⟨(some 10), .len 1 (.t 9), [2], none⟩,
   ⟨(some 11), .bin .lss (.t 7) (.t 10), [0, 3], none⟩] [] [7, 8, 9, 10])
 (.cond (.t 11)
  .skip
  (.exit 0)))
 (.seq (.block 1 (.seq (.region [⟨(some 5), .mov (.c .nilsl), [], none⟩] [] [11])
 (.seq (.seq (.region [⟨(some 6), .mov (.c (.int .i64 0)), [], none⟩] [] [])
 (.block 2 (.loop (.seq (.seq (.region [⟨(some 14), .mov (.t 6), [], none⟩,
   ⟨(some 15), .faddr 1 (.t 1), [], none⟩,
   ⟨(some 16), .load none (.t 15), [1], none⟩,
   ⟨(some 17), .len 1 (.t 16), [2], none⟩,
   ⟨(some 18), .bin .lss (.t 14) (.t 17), [0, 3], none⟩] [] [14, 15, 16, 17])
 (.cond (.t 18)
  .skip
  (.exit 2)))
 (.seq (.block 3 (.region [⟨(some 21), .mov (.t 5), [], none⟩,
   ⟨(some 22), .faddr 1 (.t 1), [], none⟩,
   ⟨(some 23), .load none (.t 22), [1], none⟩,
   ⟨(some 24), .mov (.t 6), [], none⟩,
   ⟨(some 25), .iaddr none 3 (.t 23) (.t 24), [2, 3], none⟩,
   ⟨(some 26), .faddr 2 (.t 25), [4], none⟩,
   ⟨(some 27), .load none (.t 26), [5], none⟩,
   ⟨(some 28), .mov (.t 4), [], none⟩,
   ⟨(some 29), .call .pure (.f 26) [(.t 27), (.t 28)], [6, 7], none⟩,
   ⟨(some 30), .faddr 1 (.t 1), [], none⟩,
   ⟨(some 31), .load none (.t 30), [9], none⟩,
   ⟨(some 32), .mov (.t 6), [], none⟩,
   ⟨(some 33), .iaddr none 3 (.t 31) (.t 32), [10, 11], none⟩,
   ⟨(some 34), .faddr 1 (.t 33), [12], none⟩,
   ⟨(some 35), .load none (.t 34), [13], none⟩,
   ⟨(some 36), .mov (.t 4), [], none⟩,
   ⟨(some 37), .call .pure (.f 26) [(.t 35), (.t 36)], [14, 15, 8], none⟩,
   ⟨(some 38), .bin .sub (.t 29) (.t 37), [8, 16], none⟩,
   ⟨(some 39), .bslice false .dyn 1 1 [(.int .i64 0)] [(0, 1, (.t 38))], [17], none⟩,
   ⟨(some 40), .append .dyn 1 8 (.t 21) (.t 39), [0, 18, 16], none⟩,
   ⟨(some 5), .mov (.t 40), [19, 19, 0, 1, 2, 3, 4, 5, 6, 7, 8, 9, 10, 11, 12, 13, 14, 15, 16, 17, 18, 19], none⟩] [] [18, 21, 22, 23, 24, 25, 26, 27, 28, 29, 30, 31, 32, 33, 34, 35, 36, 37, 38, 39, 40]))
 (.region [⟨(some 19), .mov (.t 6), [], none⟩,
   ⟨(some 20), .bin .add (.t 19) (.c (.int .i64 1)), [0], none⟩,
   ⟨(some 6), .mov (.t 20), [1, 0, 1], none⟩] [] [19, 20]))))))
 (.region [⟨(some 41), .mov (.t 3), [], none⟩,
   ⟨(some 42), .mov (.t 5), [], none⟩,
   ⟨(some 43), .bslice false .dyn 1 1 [.nilsl] [(0, 1, (.t 42))], [1], none⟩,
   ⟨(some 44), .append .dyn 1 24 (.t 41) (.t 43), [0, 2], none⟩,
   ⟨(some 3), .mov (.t 44), [3, 3, 0, 1, 2, 3], none⟩] [] [5, 6, 41, 42, 43, 44]))))
 (.region [⟨(some 12), .mov (.t 4), [], none⟩,
   ⟨(some 13), .bin .add (.t 12) (.c (.int .i64 1)), [0], none⟩,
   ⟨(some 4), .mov (.t 13), [1, 0, 1], none⟩] [] [12, 13]))))))
 (.seq (.region [⟨(some 45), .mov (.t 3), [], none⟩,
   ⟨(some 2), .mov (.t 45), [0, 0], none⟩] [] [1, 3, 4, 45])
 .ret))))⟩

-- overseer/invariant.Bounds
def s23 : SFn := ⟨70, [.tmp 4, .tmp 5],
 (.seq (.region [⟨(some 2), .box .dyn (.t 0), [], none⟩,
   ⟨(some 4), .mov (.c .nilsl), [], none⟩,
   ⟨(some 5), .mov (.c (.int .i64 0)), [1], none⟩] [] [0, 4, 5])
 (.seq (.seq (.region [⟨(some 12), .load (some 2) (.t 2), [], none⟩,
   ⟨(some 13), .mov (.t 1), [], none⟩,
   ⟨(some 14), .call .pure (.f 45) [(.t 12), (.t 13)], [0, 1], none⟩,
   ⟨(some 6), .mov (.t 14), [2, 2, 0, 1, 2], none⟩] [] [12, 13, 14])
 (.seq (.region [⟨(some 15), .mov (.t 6), [], none⟩,
   ⟨(some 16), .bin .neq (.t 15) (.c (.int .i64 0)), [0], none⟩] [] [15])
 (.cond (.t 16)
  (.seq (.region [⟨(some 17), .mov (.t 6), [], none⟩,
    ⟨(some 4), .mov (.c .nilsl), [], none⟩,
    ⟨(some 5), .mov (.t 17), [0, 1, 0, 1], none⟩] [] [1, 2, 6, 16, 17])
  .ret)
  .skip)))
 (.seq (.region [⟨(some 18), .faddr 0 (.t 2), [], none⟩,
   ⟨(some 19), .load none (.t 18), [0], none⟩,
   ⟨(some 20), .len 1 (.t 19), [1], none⟩,
   ⟨(some 21), .mkslice .dyn 1 8 [(.int .i64 0)] (.t 20) (.t 20), [2, 2], none⟩,
   ⟨(some 7), .mov (.t 21), [3, 0, 1, 2, 3], none⟩] [] [4, 5, 6, 16, 18, 19, 20, 21])
 (.seq (.seq (.region [⟨(some 22), .mov (.t 7), [], none⟩,
   ⟨(some 23), .len 1 (.t 22), [0], none⟩,
   ⟨(some 24), .mov (.c (.int .i64 0)), [], none⟩] [] [22])
 (.block 0 (.loop (.seq (.region [⟨(some 25), .bin .lss (.t 24) (.t 23), [], none⟩] [] [])
 (.seq (.cond (.t 25)
  .skip
  (.exit 0))
 (.seq (.block 1 (.seq (.region [⟨(some 26), .mov (.t 24), [], none⟩,
   ⟨(some 8), .mov (.t 26), [0, 0], none⟩] [] [25, 26])
 (.seq (.region [⟨(some 27), .mov (.t 7), [], none⟩,
   ⟨(some 28), .mov (.t 8), [], none⟩,
   ⟨(some 29), .iaddr none 1 (.t 27) (.t 28), [0, 1, 0, 1], none⟩,
   ⟨none, .store 1 (.t 29) (.c (.int .i64 (-1))), [2, 0, 1], none⟩] [] [27, 28, 29])
 (.seq (.region [⟨(some 30), .mov (.t 1), [], none⟩,
   ⟨(some 31), .len 1 (.t 30), [0], none⟩,
   ⟨(some 32), .mov (.c (.int .i64 0)), [], none⟩] [] [])
 (.block 2 (.loop (.seq (.region [⟨(some 33), .bin .lss (.t 32) (.t 31), [], none⟩] [] [])
 (.seq (.cond (.t 33)
  .skip
  (.exit 2))
 (.seq (.block 3 (.seq (.region [⟨(some 34), .iaddr none 1 (.t 30) (.t 32), [], none⟩,
   ⟨(some 35), .load none (.t 34), [0], none⟩,
   ⟨(some 10), .mov (.t 35), [1, 0, 1], none⟩] [] [33, 34, 35])
 (.seq (.seq (.region [⟨(some 36), .mov (.t 10), [], none⟩,
   ⟨(some 37), .mov (.t 8), [], none⟩,
   ⟨(some 38), .iaddr none 1 (.t 36) (.t 37), [0, 1], none⟩,
   ⟨(some 39), .load none (.t 38), [2], none⟩,
   ⟨(some 40), .bin .eql (.t 39) (.c (.int .i64 0)), [3], none⟩] [] [36, 37, 38, 39])
 (.cond (.t 40)
  (.exit 3)
  .skip))
 (.seq (.region [⟨(some 41), .mov (.t 10), [], none⟩,
   ⟨(some 42), .faddr 0 (.t 2), [], none⟩,
   ⟨(some 43), .load none (.t 42), [1], none⟩,
   ⟨(some 44), .call .pure (.f 46) [(.t 41), (.t 43)], [0, 2], none⟩,
   ⟨(some 45), .mov (.t 10), [], none⟩,
   ⟨(some 46), .mov (.t 8), [], none⟩,
   ⟨(some 47), .iaddr none 1 (.t 45) (.t 46), [4, 5], none⟩,
   ⟨(some 48), .load none (.t 47), [6], none⟩,
   ⟨(some 49), .bin .quo (.t 44) (.t 48), [3, 7], none⟩,
   ⟨(some 11), .mov (.t 49), [8, 3, 0, 1, 2, 3, 4, 5, 6, 7, 8], none⟩] [] [10, 40, 41, 42, 43, 44, 45, 46, 47, 48, 49])
 (.seq (.region [⟨(some 50), .mov (.t 7), [], none⟩,
   ⟨(some 51), .mov (.t 8), [], none⟩,
   ⟨(some 52), .iaddr none 1 (.t 50) (.t 51), [0, 1], none⟩,
   ⟨(some 53), .load none (.t 52), [2], none⟩,
   ⟨(some 54), .bin .lss (.t 53) (.c (.int .i64 0)), [3], none⟩,
   ⟨(some 55), .mov (.t 54), [4], none⟩,
   ⟨(some 56), .mov (.t 11), [5], (some (55, false))⟩,
   ⟨(some 57), .mov (.t 7), [5], (some (55, false))⟩,
   ⟨(some 58), .mov (.t 8), [5], (some (55, false))⟩,
   ⟨(some 59), .iaddr none 1 (.t 57) (.t 58), [7, 8, 5], (some (55, false))⟩,
   ⟨(some 60), .load none (.t 59), [9, 5], (some (55, false))⟩,
   ⟨(some 61), .bin .lss (.t 56) (.t 60), [6, 10, 5], (some (55, false))⟩,
   ⟨(some 62), .pick (.t 55) (.c (.bool true)) (.t 61), [5, 11], none⟩] [] [50, 51, 52, 53, 54, 55])
 (.cond (.t 62)
  (.region [⟨(some 63), .mov (.t 7), [], none⟩,
    ⟨(some 64), .mov (.t 8), [], none⟩,
    ⟨(some 65), .mov (.t 11), [], none⟩,
    ⟨(some 66), .iaddr none 1 (.t 63) (.t 64), [0, 1, 0, 1, 2], none⟩,
    ⟨none, .store 1 (.t 66) (.t 65), [3, 2, 0, 1, 2], none⟩] [] [11, 62, 63, 64, 65, 66])
  .skip))))))
 (.region [⟨(some 67), .bin .add (.t 32) (.c (.int .i64 1)), [], none⟩,
   ⟨(some 32), .mov (.t 67), [0], none⟩] [] [11, 62, 67]))))))))))
 (.region [⟨(some 68), .bin .add (.t 24) (.c (.int .i64 1)), [], none⟩,
   ⟨(some 24), .mov (.t 68), [0], none⟩] [] [8, 30, 31, 32, 68])))))))
 (.seq (.region [⟨(some 69), .mov (.t 7), [], none⟩,
   ⟨(some 4), .mov (.t 69), [0, 0], none⟩,
   ⟨(some 5), .mov (.c (.int .i64 0)), [1, 0, 1], none⟩] [] [1, 2, 7, 23, 24, 61, 56, 60, 59, 57, 58, 69])
 .ret)))))⟩

-- overseer/invariant.Excludes
def s24 : SFn := ⟨44, [.tmp 6, .tmp 7, .tmp 8],
 (.seq (.region [⟨(some 3), .box .dyn (.t 0), [], none⟩,
   ⟨(some 6), .mov (.c (.int .i64 0)), [], none⟩,
   ⟨(some 7), .mov (.c (.bool false)), [1], none⟩,
   ⟨(some 8), .mov (.c (.int .i64 0)), [2], none⟩] [] [0, 6, 7, 8])
 (.seq (.seq (.region [⟨(some 13), .load (some 2) (.t 3), [], none⟩,
   ⟨(some 14), .mov (.t 1), [], none⟩,
   ⟨(some 15), .call .pure (.f 45) [(.t 13), (.t 14)], [0, 1], none⟩,
   ⟨(some 9), .mov (.t 15), [2, 2, 0, 1, 2], none⟩] [] [13, 14, 15])
 (.seq (.region [⟨(some 16), .mov (.t 9), [], none⟩,
   ⟨(some 17), .bin .neq (.t 16) (.c (.int .i64 0)), [0], none⟩] [] [16])
 (.cond (.t 17)
  (.seq (.region [⟨(some 18), .mov (.t 9), [], none⟩,
    ⟨(some 6), .mov (.c (.int .i64 0)), [], none⟩,
    ⟨(some 7), .mov (.c (.bool false)), [1, 1], none⟩,
    ⟨(some 8), .mov (.t 18), [0, 2, 0, 1, 2], none⟩] [] [1, 2, 3, 9, 17, 18])
  .ret)
  .skip)))
 (.seq (.seq (.region [⟨(some 19), .mov (.t 2), [], none⟩,
   ⟨(some 20), .faddr 0 (.t 3), [], none⟩,
   ⟨(some 21), .load none (.t 20), [1], none⟩,
   ⟨(some 22), .len 1 (.t 21), [2], none⟩,
   ⟨(some 23), .call .pure (.f 47) [(.t 19), (.t 22)], [0, 3], none⟩,
   ⟨(some 10), .mov (.t 23), [4, 4, 0, 1, 2, 3, 4], none⟩] [] [6, 7, 8, 9, 17, 19, 20, 21, 22, 23])
 (.seq (.region [⟨(some 24), .mov (.t 10), [], none⟩,
   ⟨(some 25), .bin .neq (.t 24) (.c (.int .i64 0)), [0], none⟩] [] [24])
 (.cond (.t 25)
  (.seq (.region [⟨(some 26), .mov (.t 10), [], none⟩,
    ⟨(some 6), .mov (.c (.int .i64 0)), [], none⟩,
    ⟨(some 7), .mov (.c (.bool false)), [1, 1], none⟩,
    ⟨(some 8), .mov (.t 26), [0, 2, 0, 1, 2], none⟩] [] [1, 2, 3, 10, 25, 26])
  .ret)
  .skip)))
 (.seq (.seq (.region [⟨(some 27), .mov (.t 1), [], none⟩,
   ⟨(some 28), .len 1 (.t 27), [0], none⟩,
   ⟨(some 29), .mov (.c (.int .i64 0)), [], none⟩] [] [6, 7, 8, 1, 10, 25])
 (.block 0 (.loop (.seq (.region [⟨(some 30), .bin .lss (.t 29) (.t 28), [], none⟩] [] [])
 (.seq (.cond (.t 30)
  .skip
  (.exit 0))
 (.seq (.block 1 (.seq (.region [⟨(some 31), .mov (.t 29), [], none⟩,
   ⟨(some 32), .iaddr none 1 (.t 27) (.t 29), [], none⟩,
   ⟨(some 33), .load none (.t 32), [1], none⟩,
   ⟨(some 11), .mov (.t 31), [0, 0, 1, 2], none⟩,
   ⟨(some 12), .mov (.t 33), [2, 3, 0, 1, 2, 3], none⟩] [] [30, 31, 32, 33])
 (.seq (.region [⟨(some 34), .mov (.t 12), [], none⟩,
   ⟨(some 35), .mov (.t 2), [], none⟩,
   ⟨(some 36), .call .pure (.f 46) [(.t 34), (.t 35)], [0, 1], none⟩,
   ⟨(some 37), .mov (.t 12), [], none⟩,
   ⟨(some 38), .faddr 0 (.t 3), [], none⟩,
   ⟨(some 39), .load none (.t 38), [4], none⟩,
   ⟨(some 40), .call .pure (.f 46) [(.t 37), (.t 39)], [3, 5, 2], none⟩,
   ⟨(some 41), .bin .neq (.t 36) (.t 40), [2, 6], none⟩] [] [12, 34, 35, 36, 37, 38, 39, 40])
 (.cond (.t 41)
  (.seq (.region [⟨(some 42), .mov (.t 11), [], none⟩,
    ⟨(some 6), .mov (.t 42), [0, 0], none⟩,
    ⟨(some 7), .mov (.c (.bool true)), [1, 0, 1], none⟩,
    ⟨(some 8), .mov (.c (.int .i64 0)), [2, 0, 1, 2], none⟩] [] [2, 3, 27, 28, 29, 11, 41, 42])
  .ret)
  .skip))))
 (.region [⟨(some 43), .bin .add (.t 29) (.c (.int .i64 1)), [], none⟩,
   ⟨(some 29), .mov (.t 43), [0], none⟩] [] [6, 7, 8, 11, 41, 43])))))))
 (.seq (.region [⟨(some 6), .mov (.c (.int .i64 0)), [], none⟩,
   ⟨(some 7), .mov (.c (.bool false)), [0, 0], none⟩,
   ⟨(some 8), .mov (.c (.int .i64 0)), [1, 0, 1], none⟩] [] [2, 3, 27, 28, 29])
 .ret)))))⟩

-- overseer/overseerlaw48.value
def s25 : SFn := ⟨25, [.tmp 4],
 (.seq (.region [⟨(some 4), .mov (.c (.int .i64 0)), [], none⟩] [] [4])
 (.seq (.region [⟨(some 5), .mov (.c (.int .i64 0)), [], none⟩] [] [])
 (.seq (.seq (.region [⟨(some 6), .mov (.c (.int .i64 0)), [], none⟩] [] [])
 (.block 0 (.loop (.seq (.seq (.region [⟨(some 7), .mov (.t 6), [], none⟩,
   ⟨(some 8), .mov (.t 0), [], none⟩,
   ⟨(some 9), .len 1 (.t 8), [1], none⟩,
   ⟨(some 10), .bin .lss (.t 7) (.t 9), [0, 2], none⟩] [] [7, 8, 9])
 (.cond (.t 10)
  .skip
  (.exit 0)))
 (.seq (.block 1 (.region [⟨(some 13), .mov (.t 5), [], none⟩,
   ⟨(some 14), .mov (.t 0), [], none⟩,
   ⟨(some 15), .mov (.t 6), [], none⟩,
   ⟨(some 16), .iaddr none 1 (.t 14) (.t 15), [1, 2], none⟩,
   ⟨(some 17), .load none (.t 16), [3], none⟩,
   ⟨(some 18), .mov (.t 1), [], none⟩,
   ⟨(some 19), .mov (.t 6), [], none⟩,
   ⟨(some 20), .iaddr none 1 (.t 18) (.t 19), [5, 6], none⟩,
   ⟨(some 21), .load none (.t 20), [7], none⟩,
   ⟨(some 22), .bin .mul (.t 17) (.t 21), [4, 8], none⟩,
   ⟨(some 23), .bin .add (.t 13) (.t 22), [0, 9], none⟩,
   ⟨(some 5), .mov (.t 23), [10, 0, 1, 2, 3, 4, 5, 6, 7, 8, 9, 10], none⟩] [] [10, 13, 14, 15, 16, 17, 18, 19, 20, 21, 22, 23]))
 (.region [⟨(some 11), .mov (.t 6), [], none⟩,
   ⟨(some 12), .bin .add (.t 11) (.c (.int .i64 1)), [0], none⟩,
   ⟨(some 6), .mov (.t 12), [1, 0, 1], none⟩] [] [11, 12]))))))
 (.seq (.region [⟨(some 24), .mov (.t 5), [], none⟩,
   ⟨(some 4), .mov (.t 24), [0, 0], none⟩] [] [0, 1, 5, 6, 24])
 .ret))))⟩

-- overseer/overseerlaw48.weight
def s26 : SFn := ⟨24, [.tmp 4],
 (.seq (.region [⟨(some 4), .mov (.c (.int .i64 0)), [], none⟩] [] [4])
 (.seq (.seq (.region [⟨(some 5), .mov (.c (.int .i64 0)), [], none⟩] [] [])
 (.block 0 (.loop (.seq (.seq (.region [⟨(some 6), .mov (.t 5), [], none⟩,
   ⟨(some 7), .mov (.t 0), [], none⟩,
   ⟨(some 8), .len 1 (.t 7), [1], none⟩,
   ⟨(some 9), .bin .lss (.t 6) (.t 8), [0, 2], none⟩] [] [6, 7, 8])
 (.cond (.t 9)
  .skip
  (.exit 0)))
 (.seq (.block 1 (.seq (.region [⟨(some 12), .mov (.t 0), [], none⟩,
   ⟨(some 13), .mov (.t 5), [], none⟩,
   ⟨(some 14), .iaddr none 2 (.t 12) (.t 13), [0, 1], none⟩,
   ⟨(some 15), .faddr 0 (.t 14), [2], none⟩,
   ⟨(some 16), .load none (.t 15), [3], none⟩,
   ⟨(some 17), .mov (.t 1), [], none⟩,
   ⟨(some 18), .bin .eql (.t 16) (.t 17), [4, 5], none⟩] [] [9, 12, 13, 14, 15, 16, 17])
 (.cond (.t 18)
  (.seq (.region [⟨(some 19), .mov (.t 0), [], none⟩,
    ⟨(some 20), .mov (.t 5), [], none⟩,
    ⟨(some 21), .iaddr none 2 (.t 19) (.t 20), [0, 1], none⟩,
    ⟨(some 22), .faddr 1 (.t 21), [2], none⟩,
    ⟨(some 23), .load none (.t 22), [3], none⟩,
    ⟨(some 4), .mov (.t 23), [4, 0, 1, 2, 3, 4], none⟩] [] [0, 1, 5, 18, 19, 20, 21, 22, 23])
  .ret)
  .skip)))
 (.region [⟨(some 10), .mov (.t 5), [], none⟩,
   ⟨(some 11), .bin .add (.t 10) (.c (.int .i64 1)), [0], none⟩,
   ⟨(some 5), .mov (.t 11), [1, 0, 1], none⟩] [] [4, 18, 10, 11]))))))
 (.seq (.region [⟨(some 4), .mov (.c (.int .i64 0)), [], none⟩] [] [0, 1, 5])
 .ret)))⟩

-- overseer/invariant.Incidence
def s27 : SFn := ⟨8, [.tmp 2, .tmp 3],
 (.seq (.region [⟨(some 1), .box .dyn (.t 0), [], none⟩,
   ⟨(some 2), .mov (.c .nilsl), [], none⟩,
   ⟨(some 3), .mov (.c (.int .i64 0)), [1], none⟩] [] [0, 2, 3])
 (.seq (.region [⟨(some 4), .load (some 2) (.t 1), [], none⟩,
   ⟨(some 5), .call .pure (.f 48) [(.t 4)], [0], none⟩,
   ⟨(some 6), .extract 0 (.t 5), [1], none⟩,
   ⟨(some 7), .extract 1 (.t 5), [1], none⟩,
   ⟨(some 2), .mov (.t 6), [2, 1, 0, 1, 2, 3], none⟩,
   ⟨(some 3), .mov (.t 7), [3, 4, 0, 1, 2, 3, 4], none⟩] [] [1, 4, 5, 6, 7])
 .ret))⟩

-- overseer/invariant.IsSemiflow
def s28 : SFn := ⟨30, [.tmp 6, .tmp 7],
 (.seq (.region [⟨(some 3), .box .dyn (.t 0), [], none⟩,
   ⟨(some 6), .mov (.c (.bool false)), [], none⟩,
   ⟨(some 7), .mov (.c (.int .i64 0)), [1], none⟩] [] [0, 6, 7])
 (.seq (.region [⟨(some 12), .load (some 2) (.t 3), [], none⟩,
   ⟨(some 13), .mov (.t 1), [], none⟩,
   ⟨(some 14), .call .pure (.f 39) [(.t 12), (.t 13)], [0, 1], none⟩,
   ⟨(some 11), .mov (.t 14), [2], none⟩,
   ⟨(some 15), .extract 0 (.t 11), [3], none⟩,
   ⟨(some 16), .extract 1 (.t 11), [3], none⟩,
   ⟨(some 8), .alloc .dyn (.agg [(.int .i64 0), .nilsl]), [], none⟩,
   ⟨none, .store 2 (.t 8) (.t 15), [6, 4, 2, 0, 1, 2, 3, 4, 6], none⟩,
   ⟨(some 9), .mov (.t 16), [5, 7, 0, 1, 2, 3, 4, 5, 6, 7], none⟩] [] [1, 3, 12, 13, 14, 11, 15, 16])
 (.seq (.seq (.region [⟨(some 17), .mov (.t 9), [], none⟩,
   ⟨(some 18), .bin .neq (.t 17) (.c (.int .i64 0)), [0], none⟩] [] [17])
 (.cond (.t 18)
  (.seq (.region [⟨(some 19), .mov (.t 9), [], none⟩,
    ⟨(some 6), .mov (.c (.bool false)), [], none⟩,
    ⟨(some 7), .mov (.t 19), [0, 1, 0, 1], none⟩] [] [2, 8, 9, 18, 19])
  .ret)
  .skip))
 (.seq (.seq (.region [⟨(some 20), .mov (.t 2), [], none⟩,
   ⟨(some 21), .faddr 0 (.t 8), [], none⟩,
   ⟨(some 22), .load none (.t 21), [1], none⟩,
   ⟨(some 23), .call .pure (.f 47) [(.t 20), (.t 22)], [0, 2], none⟩,
   ⟨(some 10), .mov (.t 23), [3, 3, 0, 1, 2, 3], none⟩] [] [6, 7, 9, 18, 20, 21, 22, 23])
 (.seq (.region [⟨(some 24), .mov (.t 10), [], none⟩,
   ⟨(some 25), .bin .neq (.t 24) (.c (.int .i64 0)), [0], none⟩] [] [24])
 (.cond (.t 25)
  (.seq (.region [⟨(some 26), .mov (.t 10), [], none⟩,
    ⟨(some 6), .mov (.c (.bool false)), [], none⟩,
    ⟨(some 7), .mov (.t 26), [0, 1, 0, 1], none⟩] [] [2, 8, 10, 25, 26])
  .ret)
  .skip)))
 (.seq (.region [⟨(some 27), .load (some 2) (.t 8), [], none⟩,
   ⟨(some 28), .mov (.t 2), [], none⟩,
   ⟨(some 29), .call .pure (.f 49) [(.t 27), (.t 28)], [0, 1], none⟩,
   ⟨(some 6), .mov (.t 29), [2, 2, 0, 1, 2], none⟩,
   ⟨(some 7), .mov (.c (.int .i64 0)), [3, 0, 1, 2, 3], none⟩] [] [2, 8, 10, 25, 27, 28, 29])
 .ret)))))⟩

-- overseer/overseerlaw48.same
def s29 : SFn := ⟨26, [.tmp 4],
 (.seq (.region [⟨(some 4), .mov (.c (.bool false)), [], none⟩] [] [4])
 (.seq (.seq (.region [⟨(some 6), .mov (.t 0), [], none⟩,
   ⟨(some 7), .len 1 (.t 6), [0], none⟩,
   ⟨(some 8), .mov (.t 1), [], none⟩,
   ⟨(some 9), .len 1 (.t 8), [2], none⟩,
   ⟨(some 10), .bin .neq (.t 7) (.t 9), [1, 3], none⟩] [] [6, 7, 8, 9])
 (.cond (.t 10)
  (.seq (.region [⟨(some 4), .mov (.c (.bool false)), [], none⟩] [] [0, 1, 10])
  .ret)
  .skip))
 (.seq (.seq (.region [⟨(some 5), .mov (.c (.int .i64 0)), [], none⟩] [] [4, 10])
 (.block 0 (.loop (.seq (.seq (.region [⟨(some 11), .mov (.t 5), [], none⟩,
   ⟨(some 12), .mov (.t 0), [], none⟩,
   ⟨(some 13), .len 1 (.t 12), [1], none⟩,
   ⟨(some 14), .bin .lss (.t 11) (.t 13), [0, 2], none⟩] [] [11, 12, 13])
 (.cond (.t 14)
  .skip
  (.exit 0)))
 (.seq (.block 1 (.seq (.region [⟨(some 17), .mov (.t 0), [], none⟩,
   ⟨(some 18), .mov (.t 5), [], none⟩,
   ⟨(some 19), .iaddr none 1 (.t 17) (.t 18), [0, 1], none⟩,
   ⟨(some 20), .load none (.t 19), [2], none⟩,
   ⟨(some 21), .mov (.t 1), [], none⟩,
   ⟨(some 22), .mov (.t 5), [], none⟩,
   ⟨(some 23), .iaddr none 1 (.t 21) (.t 22), [4, 5], none⟩,
   ⟨(some 24), .load none (.t 23), [6], none⟩,
   ⟨(some 25), .bin .neq (.t 20) (.t 24), [3, 7], none⟩] [] [14, 17, 18, 19, 20, 21, 22, 23, 24])
 (.cond (.t 25)
  (.seq (.region [⟨(some 4), .mov (.c (.bool false)), [], none⟩] [] [0, 1, 5, 25])
  .ret)
  .skip)))
 (.region [⟨(some 15), .mov (.t 5), [], none⟩,
   ⟨(some 16), .bin .add (.t 15) (.c (.int .i64 1)), [0], none⟩,
   ⟨(some 5), .mov (.t 16), [1, 0, 1], none⟩] [] [4, 25, 15, 16]))))))
 (.seq (.region [⟨(some 4), .mov (.c (.bool true)), [], none⟩] [] [0, 1, 5])
 .ret))))⟩

-- overseer/invariant.Support
def s30 : SFn := ⟨21, [.tmp 2],
 (.seq (.region [⟨(some 2), .mov (.c .nilsl), [], none⟩] [] [2])
 (.seq (.region [⟨(some 3), .mov (.c .nilsl), [], none⟩] [] [])
 (.seq (.seq (.region [⟨(some 6), .mov (.t 0), [], none⟩,
   ⟨(some 7), .len 1 (.t 6), [0], none⟩,
   ⟨(some 8), .mov (.c (.int .i64 0)), [], none⟩] [] [0])
 (.block 0 (.loop (.seq (.region [⟨(some 9), .bin .lss (.t 8) (.t 7), [], none⟩] [] [])
 (.seq (.cond (.t 9)
  .skip
  (.exit 0))
 (.seq (.block 1 (.seq (.region [⟨(some 10), .mov (.t 8), [], none⟩,
   ⟨(some 11), .iaddr none 1 (.t 6) (.t 8), [], none⟩,
   ⟨(some 12), .load none (.t 11), [1], none⟩,
   ⟨(some 4), .mov (.t 10), [0, 0, 1, 2], none⟩,
   ⟨(some 5), .mov (.t 12), [2, 3, 0, 1, 2, 3], none⟩] [] [9, 10, 11, 12])
 (.seq (.region [⟨(some 13), .mov (.t 5), [], none⟩,
   ⟨(some 14), .bin .neq (.t 13) (.c (.int .i64 0)), [0], none⟩] [] [5, 13])
 (.cond (.t 14)
  (.region [⟨(some 15), .mov (.t 3), [], none⟩,
    ⟨(some 16), .mov (.t 4), [], none⟩,
    ⟨(some 17), .bslice false .dyn 1 1 [(.int .i64 0)] [(0, 1, (.t 16))], [1], none⟩,
    ⟨(some 18), .append .dyn 1 8 (.t 15) (.t 17), [0, 2], none⟩,
    ⟨(some 3), .mov (.t 18), [3, 3, 0, 1, 2, 3], none⟩] [] [4, 14, 15, 16, 17, 18])
  .skip))))
 (.region [⟨(some 19), .bin .add (.t 8) (.c (.int .i64 1)), [], none⟩,
   ⟨(some 8), .mov (.t 19), [0], none⟩] [] [4, 14, 19])))))))
 (.seq (.region [⟨(some 20), .mov (.t 3), [], none⟩,
   ⟨(some 2), .mov (.t 20), [0, 0], none⟩] [] [3, 6, 7, 8, 20])
 .ret))))⟩

-- overseer/overseerlaw48.small
def s32 : SFn := ⟨9, [.tmp 2],
 (.seq (.region [⟨(some 2), .mov (.c (.bool false)), [], none⟩] [] [2])
 (.seq (.region [⟨(some 3), .mov (.t 0), [], none⟩,
   ⟨(some 4), .bin .geq (.t 3) (.c (.int .i64 0)), [0], none⟩,
   ⟨(some 5), .mov (.t 4), [1], none⟩,
   ⟨(some 6), .mov (.t 0), [2], (some (5, true))⟩,
   ⟨(some 7), .bin .leq (.t 6) (.c (.int .i64 65536)), [3, 2], (some (5, true))⟩,
   ⟨(some 8), .pick (.t 5) (.t 7) (.c (.bool false)), [2, 4], none⟩,
   ⟨(some 2), .mov (.t 8), [5, 2, 0, 1, 2, 3, 4, 5], none⟩] [] [0, 3, 4, 5, 6, 7, 8])
 .ret))⟩

-- overseer/net.Check
def s37 : SFn := ⟨58, [.tmp 2],
 (.seq (.region [⟨(some 1), .box .dyn (.t 0), [], none⟩,
   ⟨(some 2), .mov (.c (.int .i64 0)), [], none⟩] [] [0, 2])
 (.seq (.block 0 (.seq (.region [⟨(some 9), .faddr 0 (.t 1), [], none⟩,
   ⟨(some 10), .load none (.t 9), [0], none⟩,
   ⟨(some 11), .len 1 (.t 10), [1], none⟩,
   ⟨(some 12), .bin .gtr (.t 11) (.c (.int .i64 10)), [2], none⟩,
   ⟨(some 8), .mov (.t 12), [3], none⟩] [] [9, 10, 11, 12])
 (.cond (.t 8)
  (.seq (.region [⟨(some 2), .mov (.c (.int .i64 3)), [], none⟩] [] [1, 8])
  .ret)
  (.seq (.region [⟨(some 14), .faddr 0 (.t 1), [], none⟩,
    ⟨(some 15), .load none (.t 14), [0], none⟩,
    ⟨(some 16), .call .pure (.f 57) [(.t 15)], [1], none⟩,
    ⟨(some 17), .un .not (.t 16), [2], none⟩,
    ⟨(some 13), .mov (.t 17), [3, 2], none⟩] [] [8, 14, 15, 16, 17])
  (.cond (.t 13)
   (.seq (.region [⟨(some 2), .mov (.c (.int .i64 2)), [], none⟩] [] [1, 13])
   .ret)
   (.seq (.region [⟨(some 19), .faddr 1 (.t 1), [], none⟩,
     ⟨(some 20), .load none (.t 19), [0], none⟩,
     ⟨(some 21), .len 1 (.t 20), [1], none⟩,
     ⟨(some 22), .bin .gtr (.t 21) (.c (.int .i64 10)), [2], none⟩,
     ⟨(some 18), .mov (.t 22), [3], none⟩] [] [13, 19, 20, 21, 22])
   (.cond (.t 18)
    (.seq (.region [⟨(some 2), .mov (.c (.int .i64 3)), [], none⟩] [] [1, 18])
    .ret)
    .skip)))))))
 (.seq (.seq (.region [⟨(some 23), .faddr 1 (.t 1), [], none⟩,
   ⟨(some 24), .load none (.t 23), [0], none⟩,
   ⟨(some 25), .len 1 (.t 24), [1], none⟩,
   ⟨(some 26), .mov (.c (.int .i64 0)), [], none⟩] [] [2, 18, 23])
 (.block 1 (.loop (.seq (.region [⟨(some 27), .bin .lss (.t 26) (.t 25), [], none⟩] [] [])
 (.seq (.cond (.t 27)
  .skip
  (.exit 1))
 (.seq (.block 2 (.seq (.region [⟨(some 28), .iaddr none 3 (.t 24) (.t 26), [], none⟩,
   ⟨(some 29), .load (some 3) (.t 28), [0], none⟩,
   ⟨(some 4), .alloc .dyn (.agg [(.int .i64 0), .nilsl, .nilsl]), [], none⟩,
   ⟨none, .store 3 (.t 4) (.t 29), [2, 1, 0, 1, 2], none⟩] [] [27, 28, 29])
 (.seq (.seq (.region [⟨(some 30), .faddr 0 (.t 4), [], none⟩,
   ⟨(some 31), .load none (.t 30), [0], none⟩,
   ⟨(some 32), .bin .lss (.t 31) (.c (.int .i64 0)), [1], none⟩,
   ⟨(some 33), .mov (.t 32), [2], none⟩,
   ⟨(some 34), .faddr 0 (.t 4), [3], (some (33, false))⟩,
   ⟨(some 35), .load none (.t 34), [4, 3], (some (33, false))⟩,
   ⟨(some 36), .bin .geq (.t 35) (.c (.int .i64 32)), [5, 3], (some (33, false))⟩,
   ⟨(some 37), .pick (.t 33) (.c (.bool true)) (.t 36), [3, 6], none⟩] [] [30, 31, 32, 33])
 (.cond (.t 37)
  (.seq (.region [⟨(some 2), .mov (.c (.int .i64 2)), [], none⟩] [] [1, 24, 25, 26, 36, 35, 34, 4, 37])
  .ret)
  .skip))
 (.seq (.region [⟨(some 38), .faddr 1 (.t 4), [], none⟩,
   ⟨(some 39), .load none (.t 38), [0], none⟩,
   ⟨(some 40), .faddr 2 (.t 4), [], none⟩,
   ⟨(some 41), .load none (.t 40), [2], none⟩,
   ⟨(some 42), .bslice false .dyn 1 2 [.nilsl, .nilsl] [(0, 1, (.t 39)), (1, 1, (.t 41))], [1, 3], none⟩,
   ⟨(some 43), .len 1 (.t 42), [4], none⟩,
   ⟨(some 44), .mov (.c (.int .i64 0)), [], none⟩] [] [2, 4, 37, 38, 39, 40, 41])
 (.block 3 (.loop (.seq (.region [⟨(some 45), .bin .lss (.t 44) (.t 43), [], none⟩] [] [])
 (.seq (.cond (.t 45)
  .skip
  (.exit 3))
 (.seq (.block 4 (.seq (.region [⟨(some 46), .iaddr none 1 (.t 42) (.t 44), [], none⟩,
   ⟨(some 47), .load none (.t 46), [0], none⟩,
   ⟨(some 6), .mov (.t 47), [1, 0, 1], none⟩] [] [45, 46, 47])
 (.seq (.region [⟨(some 48), .mov (.t 6), [], none⟩,
   ⟨(some 49), .faddr 0 (.t 1), [], none⟩,
   ⟨(some 50), .load none (.t 49), [1], none⟩,
   ⟨(some 51), .len 1 (.t 50), [2], none⟩,
   ⟨(some 52), .call .pure (.f 58) [(.t 48), (.t 51)], [0, 3], none⟩,
   ⟨(some 7), .mov (.t 52), [4, 4, 0, 1, 2, 3, 4], none⟩] [] [6, 48, 49, 50, 51, 52])
 (.seq (.region [⟨(some 53), .mov (.t 7), [], none⟩,
   ⟨(some 54), .bin .neq (.t 53) (.c (.int .i64 0)), [0], none⟩] [] [53])
 (.cond (.t 54)
  (.seq (.region [⟨(some 55), .mov (.t 7), [], none⟩,
    ⟨(some 2), .mov (.t 55), [0, 0], none⟩] [] [1, 24, 25, 26, 36, 35, 34, 42, 43, 44, 7, 54, 55])
  .ret)
  .skip)))))
 (.region [⟨(some 56), .bin .add (.t 44) (.c (.int .i64 1)), [], none⟩,
   ⟨(some 44), .mov (.t 56), [0], none⟩] [] [2, 7, 54, 56]))))))))))
 (.region [⟨(some 57), .bin .add (.t 26) (.c (.int .i64 1)), [], none⟩,
   ⟨(some 26), .mov (.t 57), [0], none⟩] [] [42, 43, 44, 57])))))))
 (.seq (.region [⟨(some 2), .mov (.c (.int .i64 0)), [], none⟩] [] [1, 24, 25, 26, 36, 35, 34])
 .ret))))⟩

-- overseer/invariant.newTable
def s39 : SFn := ⟨80, [.cell 4 (some 2), .tmp 5],
 (.seq (.region [⟨(some 2), .box .dyn (.t 0), [], none⟩,
   ⟨(some 4), .alloc .dyn (.agg [(.int .i64 0), .nilsl]), [], none⟩,
   ⟨(some 5), .mov (.c (.int .i64 0)), [], none⟩] [] [0, 5])
 (.seq (.region [⟨(some 14), .load (some 2) (.t 2), [], none⟩,
   ⟨(some 15), .call .pure (.f 48) [(.t 14)], [0], none⟩,
   ⟨(some 13), .mov (.t 15), [1], none⟩,
   ⟨(some 16), .extract 0 (.t 13), [2], none⟩,
   ⟨(some 17), .extract 1 (.t 13), [2], none⟩,
   ⟨(some 6), .mov (.t 16), [3, 1, 0, 1, 2, 3], none⟩,
   ⟨(some 7), .mov (.t 17), [4, 5, 0, 1, 2, 3, 4, 5], none⟩] [] [14, 15, 13, 16, 17])
 (.seq (.seq (.region [⟨(some 18), .mov (.t 7), [], none⟩,
   ⟨(some 19), .bin .neq (.t 18) (.c (.int .i64 0)), [0], none⟩] [] [18])
 (.cond (.t 19)
  (.seq (.region [⟨(some 20), .build [(.int .i64 0), .nilsl] [], [], none⟩,
    ⟨(some 21), .mov (.t 7), [], none⟩,
    ⟨none, .store 2 (.t 4) (.t 20), [0, 0], none⟩,
    ⟨(some 5), .mov (.t 21), [1, 2, 0, 1, 2], none⟩] [] [1, 2, 6, 7, 19, 20, 21])
  .ret)
  .skip))
 (.seq (.seq (.region [⟨(some 22), .mov (.t 1), [], none⟩,
   ⟨(some 23), .bin .neq (.t 22) (.c (.int .i64 1)), [0], none⟩,
   ⟨(some 24), .mov (.t 23), [1], none⟩,
   ⟨(some 25), .mov (.t 1), [2], (some (24, true))⟩,
   ⟨(some 26), .bin .neq (.t 25) (.c (.int .i64 2)), [3, 2], (some (24, true))⟩,
   ⟨(some 27), .pick (.t 24) (.t 26) (.c (.bool false)), [2, 4], none⟩] [] [5, 7, 19, 22, 23, 24, 25, 26])
 (.cond (.t 27)
  (.seq (.region [⟨(some 28), .build [(.int .i64 0), .nilsl] [], [], none⟩,
    ⟨none, .store 2 (.t 4) (.t 28), [0, 0], none⟩,
    ⟨(some 5), .mov (.c (.int .i64 11)), [1, 0, 1], none⟩] [] [1, 2, 6, 27, 28])
  .ret)
  .skip))
 (.seq (.region [⟨(some 29), .faddr 0 (.t 2), [], none⟩,
   ⟨(some 30), .load none (.t 29), [0], none⟩,
   ⟨(some 31), .len 1 (.t 30), [1], none⟩,
   ⟨(some 32), .faddr 1 (.t 2), [], none⟩,
   ⟨(some 33), .load none (.t 32), [3], none⟩,
   ⟨(some 34), .len 1 (.t 33), [4], none⟩,
   ⟨(some 35), .mkslice .dyn 10 80 [(.int .i64 0), (.int .i64 0), (.int .i64 0), (.int .i64 0), (.int .i64 0), (.int .i64 0), (.int .i64 0), (.int .i64 0), (.int .i64 0), (.int .i64 0)] (.t 34) (.t 34), [5, 5], none⟩,
   ⟨(some 36), .build [(.int .i64 0), .nilsl] [(0, 1, (.t 31)), (1, 1, (.t 35))], [2, 6], none⟩,
   ⟨(some 8), .alloc .dyn (.agg [(.int .i64 0), .nilsl]), [], none⟩,
   ⟨none, .store 2 (.t 8) (.t 36), [8, 7, 0, 1, 2, 3, 4, 5, 6, 7, 8], none⟩] [] [5, 27, 29, 30, 31, 32, 33, 34, 35, 36])
 (.seq (.seq (.region [⟨(some 37), .mov (.t 1), [], none⟩,
   ⟨(some 38), .bin .eql (.t 37) (.c (.int .i64 2)), [0], none⟩] [] [37])
 (.cond (.t 38)
  (.region [⟨(some 39), .faddr 1 (.t 2), [], none⟩,
    ⟨(some 40), .load none (.t 39), [0], none⟩,
    ⟨(some 41), .len 1 (.t 40), [1], none⟩,
    ⟨(some 42), .faddr 0 (.t 2), [], none⟩,
    ⟨(some 43), .load none (.t 42), [3], none⟩,
    ⟨(some 44), .len 1 (.t 43), [4], none⟩,
    ⟨(some 45), .mkslice .dyn 10 80 [(.int .i64 0), (.int .i64 0), (.int .i64 0), (.int .i64 0), (.int .i64 0), (.int .i64 0), (.int .i64 0), (.int .i64 0), (.int .i64 0), (.int .i64 0)] (.t 44) (.t 44), [5, 5], none⟩,
    ⟨(some 46), .build [(.int .i64 0), .nilsl] [(0, 1, (.t 41)), (1, 1, (.t 45))], [2, 6], none⟩,
    ⟨none, .store 2 (.t 8) (.t 46), [7, 0, 1, 2, 3, 4, 5, 6, 7], none⟩] [] [2, 38, 39, 40, 41, 42, 43, 44, 45, 46])
  .skip))
 (.seq (.seq (.region [⟨(some 47), .mov (.t 6), [], none⟩,
   ⟨(some 48), .len 1 (.t 47), [0], none⟩,
   ⟨(some 49), .mov (.c (.int .i64 0)), [], none⟩] [] [6, 2, 38])
 (.block 0 (.loop (.seq (.region [⟨(some 50), .bin .lss (.t 49) (.t 48), [], none⟩] [] [])
 (.seq (.cond (.t 50)
  .skip
  (.exit 0))
 (.seq (.block 1 (.seq (.region [⟨(some 51), .mov (.t 49), [], none⟩,
   ⟨(some 52), .iaddr none 1 (.t 47) (.t 49), [], none⟩,
   ⟨(some 53), .load none (.t 52), [1], none⟩,
   ⟨(some 9), .mov (.t 51), [0, 0, 1, 2], none⟩,
   ⟨(some 10), .mov (.t 53), [2, 3, 0, 1, 2, 3], none⟩] [] [50, 51, 52, 53])
 (.seq (.region [⟨(some 54), .mov (.t 10), [], none⟩,
   ⟨(some 55), .len 1 (.t 54), [0], none⟩,
   ⟨(some 56), .mov (.c (.int .i64 0)), [], none⟩] [] [10])
 (.block 2 (.loop (.seq (.region [⟨(some 57), .bin .lss (.t 56) (.t 55), [], none⟩] [] [])
 (.seq (.cond (.t 57)
  .skip
  (.exit 2))
 (.seq (.block 3 (.seq (.region [⟨(some 58), .mov (.t 56), [], none⟩,
   ⟨(some 59), .iaddr none 1 (.t 54) (.t 56), [], none⟩,
   ⟨(some 60), .load none (.t 59), [1], none⟩,
   ⟨(some 11), .mov (.t 58), [0, 0, 1, 2], none⟩,
   ⟨(some 12), .mov (.t 60), [2, 3, 0, 1, 2, 3], none⟩] [] [57, 58, 59, 60])
 (.seq (.region [⟨(some 61), .mov (.t 1), [], none⟩,
   ⟨(some 62), .bin .eql (.t 61) (.c (.int .i64 1)), [0], none⟩] [] [61])
 (.cond (.t 62)
  (.region [⟨(some 63), .faddr 1 (.t 8), [], none⟩,
    ⟨(some 64), .load none (.t 63), [0], none⟩,
    ⟨(some 65), .mov (.t 11), [], none⟩,
    ⟨(some 66), .mov (.t 9), [], none⟩,
    ⟨(some 67), .mov (.t 12), [], none⟩,
    ⟨(some 68), .iaddr none 10 (.t 64) (.t 65), [1, 2], none⟩,
    ⟨(some 69), .iaddr (some 10) 1 (.t 68) (.t 66), [5, 3, 0, 1, 2, 3, 4], none⟩,
    ⟨none, .store 1 (.t 69) (.t 67), [6, 4, 0, 1, 2, 3, 4], none⟩] [] [11, 12, 62, 63, 64, 65, 66, 67, 68, 69])
  (.region [⟨(some 70), .faddr 1 (.t 8), [], none⟩,
    ⟨(some 71), .load none (.t 70), [0], none⟩,
    ⟨(some 72), .mov (.t 9), [], none⟩,
    ⟨(some 73), .mov (.t 11), [], none⟩,
    ⟨(some 74), .mov (.t 12), [], none⟩,
    ⟨(some 75), .iaddr none 10 (.t 71) (.t 72), [1, 2], none⟩,
    ⟨(some 76), .iaddr (some 10) 1 (.t 75) (.t 73), [5, 3, 0, 1, 2, 3, 4], none⟩,
    ⟨none, .store 1 (.t 76) (.t 74), [6, 4, 0, 1, 2, 3, 4], none⟩] [] [11, 12, 62, 70, 71, 72, 73, 74, 75, 76])))))
 (.region [⟨(some 77), .bin .add (.t 56) (.c (.int .i64 1)), [], none⟩,
   ⟨(some 56), .mov (.t 77), [0], none⟩] [] [77])))))))))
 (.region [⟨(some 78), .bin .add (.t 49) (.c (.int .i64 1)), [], none⟩,
   ⟨(some 49), .mov (.t 78), [0], none⟩] [] [9, 54, 55, 56, 78])))))))
 (.seq (.region [⟨(some 79), .load (some 2) (.t 8), [], none⟩,
   ⟨none, .store 2 (.t 4) (.t 79), [0, 0], none⟩,
   ⟨(some 5), .mov (.c (.int .i64 0)), [1, 0, 1], none⟩] [] [1, 8, 47, 48, 49, 79])
 .ret))))))))⟩

-- overseer/invariant.check
def s45 : SFn := ⟨36, [.tmp 4],
 (.seq (.region [⟨(some 2), .box .dyn (.t 0), [], none⟩,
   ⟨(some 4), .mov (.c (.int .i64 0)), [], none⟩] [] [0, 4])
 (.seq (.region [⟨(some 11), .load (some 2) (.t 2), [], none⟩,
   ⟨(some 12), .call .pure (.f 39) [(.t 11), (.c (.int .i64 1))], [0], none⟩,
   ⟨(some 10), .mov (.t 12), [1], none⟩,
   ⟨(some 13), .extract 0 (.t 10), [2], none⟩,
   ⟨(some 14), .extract 1 (.t 10), [2], none⟩,
   ⟨(some 5), .alloc .dyn (.agg [(.int .i64 0), .nilsl]), [], none⟩,
   ⟨none, .store 2 (.t 5) (.t 13), [5, 3, 1, 0, 1, 2, 3, 5], none⟩,
   ⟨(some 6), .mov (.t 14), [4, 6, 0, 1, 2, 3, 4, 5, 6], none⟩] [] [2, 11, 12, 10, 13, 14])
 (.seq (.seq (.region [⟨(some 15), .mov (.t 6), [], none⟩,
   ⟨(some 16), .bin .neq (.t 15) (.c (.int .i64 0)), [0], none⟩] [] [15])
 (.cond (.t 16)
  (.seq (.region [⟨(some 17), .mov (.t 6), [], none⟩,
    ⟨(some 4), .mov (.t 17), [0, 0], none⟩] [] [1, 5, 6, 16, 17])
  .ret)
  .skip))
 (.seq (.seq (.region [⟨(some 18), .mov (.t 1), [], none⟩,
   ⟨(some 19), .len 1 (.t 18), [0], none⟩,
   ⟨(some 20), .mov (.c (.int .i64 0)), [], none⟩] [] [4, 1, 6, 16])
 (.block 0 (.loop (.seq (.region [⟨(some 21), .bin .lss (.t 20) (.t 19), [], none⟩] [] [])
 (.seq (.cond (.t 21)
  .skip
  (.exit 0))
 (.seq (.block 1 (.seq (.region [⟨(some 22), .iaddr none 1 (.t 18) (.t 20), [], none⟩,
   ⟨(some 23), .load none (.t 22), [0], none⟩,
   ⟨(some 8), .mov (.t 23), [1, 0, 1], none⟩] [] [21, 22, 23])
 (.seq (.seq (.region [⟨(some 24), .mov (.t 8), [], none⟩,
   ⟨(some 25), .faddr 0 (.t 5), [], none⟩,
   ⟨(some 26), .load none (.t 25), [1], none⟩,
   ⟨(some 27), .call .pure (.f 47) [(.t 24), (.t 26)], [0, 2], none⟩,
   ⟨(some 9), .mov (.t 27), [3, 3, 0, 1, 2, 3], none⟩] [] [24, 25, 26, 27])
 (.seq (.region [⟨(some 28), .mov (.t 9), [], none⟩,
   ⟨(some 29), .bin .neq (.t 28) (.c (.int .i64 0)), [0], none⟩] [] [28])
 (.cond (.t 29)
  (.seq (.region [⟨(some 30), .mov (.t 9), [], none⟩,
    ⟨(some 4), .mov (.t 30), [0, 0], none⟩] [] [5, 18, 19, 20, 8, 9, 29, 30])
  .ret)
  .skip)))
 (.seq (.region [⟨(some 31), .load (some 2) (.t 5), [], none⟩,
   ⟨(some 32), .mov (.t 8), [], none⟩,
   ⟨(some 33), .call .pure (.f 49) [(.t 31), (.t 32)], [0, 1], none⟩,
   ⟨(some 34), .un .not (.t 33), [2], none⟩] [] [4, 8, 9, 29, 31, 32, 33])
 (.cond (.t 34)
  (.seq (.region [⟨(some 4), .mov (.c (.int .i64 6)), [], none⟩] [] [5, 18, 19, 20, 34])
  .ret)
  .skip)))))
 (.region [⟨(some 35), .bin .add (.t 20) (.c (.int .i64 1)), [], none⟩,
   ⟨(some 20), .mov (.t 35), [0], none⟩] [] [4, 34, 35])))))))
 (.seq (.region [⟨(some 4), .mov (.c (.int .i64 0)), [], none⟩] [] [5, 18, 19, 20])
 .ret)))))⟩

-- overseer/invariant.value
def s46 : SFn := ⟨25, [.tmp 4],
 (.seq (.region [⟨(some 4), .mov (.c (.int .i64 0)), [], none⟩] [] [4])
 (.seq (.region [⟨(some 5), .mov (.c (.int .i64 0)), [], none⟩] [] [])
 (.seq (.seq (.region [⟨(some 8), .mov (.t 0), [], none⟩,
   ⟨(some 9), .len 1 (.t 8), [0], none⟩,
   ⟨(some 10), .mov (.c (.int .i64 0)), [], none⟩] [] [0])
 (.block 0 (.loop (.seq (.region [⟨(some 11), .bin .lss (.t 10) (.t 9), [], none⟩] [] [])
 (.seq (.cond (.t 11)
  .skip
  (.exit 0))
 (.seq (.block 1 (.seq (.region [⟨(some 12), .mov (.t 10), [], none⟩,
   ⟨(some 13), .iaddr none 1 (.t 8) (.t 10), [], none⟩,
   ⟨(some 14), .load none (.t 13), [1], none⟩,
   ⟨(some 6), .mov (.t 12), [0, 0, 1, 2], none⟩,
   ⟨(some 7), .mov (.t 14), [2, 3, 0, 1, 2, 3], none⟩] [] [11, 12, 13, 14])
 (.region [⟨(some 15), .mov (.t 5), [], none⟩,
   ⟨(some 16), .mov (.t 7), [], none⟩,
   ⟨(some 17), .mov (.t 1), [], none⟩,
   ⟨(some 18), .mov (.t 6), [], none⟩,
   ⟨(some 19), .iaddr none 1 (.t 17) (.t 18), [2, 3], none⟩,
   ⟨(some 20), .load none (.t 19), [4], none⟩,
   ⟨(some 21), .bin .mul (.t 16) (.t 20), [1, 5], none⟩,
   ⟨(some 22), .bin .add (.t 15) (.t 21), [0, 6], none⟩,
   ⟨(some 5), .mov (.t 22), [7, 0, 1, 2, 3, 4, 5, 6, 7], none⟩] [] [6, 7, 15, 16, 17, 18, 19, 20, 21, 22])))
 (.region [⟨(some 23), .bin .add (.t 10) (.c (.int .i64 1)), [], none⟩,
   ⟨(some 10), .mov (.t 23), [0], none⟩] [] [23])))))))
 (.seq (.region [⟨(some 24), .mov (.t 5), [], none⟩,
   ⟨(some 4), .mov (.t 24), [0, 0], none⟩] [] [1, 5, 8, 9, 10, 24])
 .ret))))⟩

-- overseer/invariant.weigh
def s47 : SFn := ⟨11, [.tmp 4],
 (.seq (.region [⟨(some 4), .mov (.c (.int .i64 0)), [], none⟩] [] [4])
 (.seq (.seq (.region [⟨(some 5), .mov (.t 0), [], none⟩,
   ⟨(some 6), .len 1 (.t 5), [0], none⟩,
   ⟨(some 7), .mov (.t 1), [], none⟩,
   ⟨(some 8), .bin .neq (.t 6) (.t 7), [1, 2], none⟩] [] [1, 5, 6, 7])
 (.cond (.t 8)
  (.seq (.region [⟨(some 4), .mov (.c (.int .i64 4)), [], none⟩] [] [0, 8])
  .ret)
  .skip))
 (.seq (.region [⟨(some 9), .mov (.t 0), [], none⟩,
   ⟨(some 10), .call .pure (.f 50) [(.t 9)], [0], none⟩,
   ⟨(some 4), .mov (.t 10), [1, 1, 0, 1], none⟩] [] [0, 8, 9, 10])
 .ret)))⟩

-- overseer/net.Incidence
def s48 : SFn := ⟨85, [.tmp 2, .tmp 3],
 (.seq (.region [⟨(some 1), .box .dyn (.t 0), [], none⟩,
   ⟨(some 2), .mov (.c .nilsl), [], none⟩,
   ⟨(some 3), .mov (.c (.int .i64 0)), [1], none⟩] [] [0, 2, 3])
 (.seq (.seq (.region [⟨(some 13), .load (some 2) (.t 1), [], none⟩,
   ⟨(some 14), .call .pure (.f 37) [(.t 13)], [0], none⟩,
   ⟨(some 4), .mov (.t 14), [1, 1, 0, 1], none⟩] [] [13, 14])
 (.seq (.region [⟨(some 15), .mov (.t 4), [], none⟩,
   ⟨(some 16), .bin .neq (.t 15) (.c (.int .i64 0)), [0], none⟩] [] [15])
 (.cond (.t 16)
  (.seq (.region [⟨(some 17), .mov (.t 4), [], none⟩,
    ⟨(some 2), .mov (.c .nilsl), [], none⟩,
    ⟨(some 3), .mov (.t 17), [0, 1, 0, 1], none⟩] [] [1, 4, 16, 17])
  .ret)
  .skip)))
 (.seq (.region [⟨(some 18), .faddr 0 (.t 1), [], none⟩,
   ⟨(some 19), .load none (.t 18), [0], none⟩,
   ⟨(some 20), .len 1 (.t 19), [1], none⟩,
   ⟨(some 21), .mkslice .dyn 1 24 [.nilsl] (.t 20) (.t 20), [2, 2], none⟩,
   ⟨(some 5), .mov (.t 21), [3, 0, 1, 2, 3], none⟩] [] [2, 3, 4, 16, 18, 19, 20, 21])
 (.seq (.seq (.region [⟨(some 22), .mov (.t 5), [], none⟩,
   ⟨(some 23), .len 1 (.t 22), [0], none⟩,
   ⟨(some 24), .mov (.c (.int .i64 0)), [], none⟩] [] [22])
 (.block 0 (.loop (.seq (.region [⟨(some 25), .bin .lss (.t 24) (.t 23), [], none⟩] [] [])
 (.seq (.cond (.t 25)
  .skip
  (.exit 0))
 (.seq (.block 1 (.seq (.region [⟨(some 26), .mov (.t 24), [], none⟩,
   ⟨(some 6), .mov (.t 26), [0, 0], none⟩] [] [25, 26])
 (.region [⟨(some 27), .mov (.t 5), [], none⟩,
   ⟨(some 28), .mov (.t 6), [], none⟩,
   ⟨(some 29), .faddr 1 (.t 1), [], none⟩,
   ⟨(some 30), .load none (.t 29), [2], none⟩,
   ⟨(some 31), .len 1 (.t 30), [3], none⟩,
   ⟨(some 32), .mkslice .dyn 1 8 [(.int .i64 0)] (.t 31) (.t 31), [4, 4], none⟩,
   ⟨(some 33), .iaddr none 1 (.t 27) (.t 28), [0, 1, 0, 1, 2, 3, 4, 5], none⟩,
   ⟨none, .store 1 (.t 33) (.t 32), [6, 5, 0, 1, 2, 3, 4, 5], none⟩] [] [6, 27, 28, 29, 30, 31, 32, 33])))
 (.region [⟨(some 34), .bin .add (.t 24) (.c (.int .i64 1)), [], none⟩,
   ⟨(some 24), .mov (.t 34), [0], none⟩] [] [34])))))))
 (.seq (.seq (.region [⟨(some 35), .faddr 1 (.t 1), [], none⟩,
   ⟨(some 36), .load none (.t 35), [0], none⟩,
   ⟨(some 37), .len 1 (.t 36), [1], none⟩,
   ⟨(some 38), .mov (.c (.int .i64 0)), [], none⟩] [] [1, 23, 24, 35])
 (.block 2 (.loop (.seq (.region [⟨(some 39), .bin .lss (.t 38) (.t 37), [], none⟩] [] [])
 (.seq (.cond (.t 39)
  .skip
  (.exit 2))
 (.seq (.block 3 (.seq (.region [⟨(some 40), .mov (.t 38), [], none⟩,
   ⟨(some 41), .iaddr none 3 (.t 36) (.t 38), [], none⟩,
   ⟨(some 42), .load (some 3) (.t 41), [1], none⟩,
   ⟨(some 8), .alloc .dyn (.agg [(.int .i64 0), .nilsl, .nilsl]), [], none⟩,
   ⟨(some 7), .mov (.t 40), [0, 0, 1, 2, 3], none⟩,
   ⟨none, .store 3 (.t 8) (.t 42), [3, 2, 4, 0, 1, 2, 3, 4], none⟩] [] [39, 40, 41, 42])
 (.seq (.seq (.region [⟨(some 43), .faddr 1 (.t 8), [], none⟩,
   ⟨(some 44), .load none (.t 43), [0], none⟩,
   ⟨(some 45), .len 1 (.t 44), [1], none⟩,
   ⟨(some 46), .mov (.c (.int .i64 0)), [], none⟩] [] [43])
 (.block 4 (.loop (.seq (.region [⟨(some 47), .bin .lss (.t 46) (.t 45), [], none⟩] [] [])
 (.seq (.cond (.t 47)
  .skip
  (.exit 4))
 (.seq (.block 5 (.seq (.region [⟨(some 48), .iaddr none 2 (.t 44) (.t 46), [], none⟩,
   ⟨(some 49), .load (some 2) (.t 48), [0], none⟩,
   ⟨(some 10), .alloc .dyn (.agg [(.int .i64 0), (.int .i64 0)]), [], none⟩,
   ⟨none, .store 2 (.t 10) (.t 49), [2, 1, 0, 1, 2], none⟩] [] [47, 48, 49])
 (.region [⟨(some 50), .mov (.t 5), [], none⟩,
   ⟨(some 51), .faddr 0 (.t 10), [], none⟩,
   ⟨(some 52), .load none (.t 51), [1], none⟩,
   ⟨(some 53), .iaddr none 1 (.t 50) (.t 52), [0, 2], none⟩,
   ⟨(some 54), .load none (.t 53), [3], none⟩,
   ⟨(some 55), .mov (.t 7), [], none⟩,
   ⟨(some 56), .iaddr none 1 (.t 54) (.t 55), [4, 5], none⟩,
   ⟨(some 57), .load none (.t 56), [6], none⟩,
   ⟨(some 58), .faddr 1 (.t 10), [], none⟩,
   ⟨(some 59), .load none (.t 58), [8], none⟩,
   ⟨(some 60), .bin .sub (.t 57) (.t 59), [7, 9], none⟩,
   ⟨(some 61), .iaddr none 1 (.t 54) (.t 55), [4, 5, 0, 1, 2, 3, 4, 5, 6, 7, 8, 9, 10], none⟩,
   ⟨none, .store 1 (.t 61) (.t 60), [11, 10, 0, 1, 2, 3, 4, 5, 6, 7, 8, 9, 10], none⟩] [] [10, 50, 51, 52, 53, 54, 55, 56, 57, 58, 59, 60, 61])))
 (.region [⟨(some 62), .bin .add (.t 46) (.c (.int .i64 1)), [], none⟩,
   ⟨(some 46), .mov (.t 62), [0], none⟩] [] [62])))))))
 (.seq (.region [⟨(some 63), .faddr 2 (.t 8), [], none⟩,
   ⟨(some 64), .load none (.t 63), [0], none⟩,
   ⟨(some 65), .len 1 (.t 64), [1], none⟩,
   ⟨(some 66), .mov (.c (.int .i64 0)), [], none⟩] [] [8, 44, 45, 46, 63])
 (.block 6 (.loop (.seq (.region [⟨(some 67), .bin .lss (.t 66) (.t 65), [], none⟩] [] [])
 (.seq (.cond (.t 67)
  .skip
  (.exit 6))
 (.seq (.block 7 (.seq (.region [⟨(some 68), .iaddr none 2 (.t 64) (.t 66), [], none⟩,
   ⟨(some 69), .load (some 2) (.t 68), [0], none⟩,
   ⟨(some 12), .alloc .dyn (.agg [(.int .i64 0), (.int .i64 0)]), [], none⟩,
   ⟨none, .store 2 (.t 12) (.t 69), [2, 1, 0, 1, 2], none⟩] [] [67, 68, 69])
 (.region [⟨(some 70), .mov (.t 5), [], none⟩,
   ⟨(some 71), .faddr 0 (.t 12), [], none⟩,
   ⟨(some 72), .load none (.t 71), [1], none⟩,
   ⟨(some 73), .iaddr none 1 (.t 70) (.t 72), [0, 2], none⟩,
   ⟨(some 74), .load none (.t 73), [3], none⟩,
   ⟨(some 75), .mov (.t 7), [], none⟩,
   ⟨(some 76), .iaddr none 1 (.t 74) (.t 75), [4, 5], none⟩,
   ⟨(some 77), .load none (.t 76), [6], none⟩,
   ⟨(some 78), .faddr 1 (.t 12), [], none⟩,
   ⟨(some 79), .load none (.t 78), [8], none⟩,
   ⟨(some 80), .bin .add (.t 77) (.t 79), [7, 9], none⟩,
   ⟨(some 81), .iaddr none 1 (.t 74) (.t 75), [4, 5, 0, 1, 2, 3, 4, 5, 6, 7, 8, 9, 10], none⟩,
   ⟨none, .store 1 (.t 81) (.t 80), [11, 10, 0, 1, 2, 3, 4, 5, 6, 7, 8, 9, 10], none⟩] [] [12, 70, 71, 72, 73, 74, 75, 76, 77, 78, 79, 80, 81])))
 (.region [⟨(some 82), .bin .add (.t 66) (.c (.int .i64 1)), [], none⟩,
   ⟨(some 66), .mov (.t 82), [0], none⟩] [] [82]))))))))))
 (.region [⟨(some 83), .bin .add (.t 38) (.c (.int .i64 1)), [], none⟩,
   ⟨(some 38), .mov (.t 83), [0], none⟩] [] [7, 64, 65, 66, 83])))))))
 (.seq (.region [⟨(some 84), .mov (.t 5), [], none⟩,
   ⟨(some 2), .mov (.t 84), [0, 0], none⟩,
   ⟨(some 3), .mov (.c (.int .i64 0)), [1, 0, 1], none⟩] [] [5, 36, 37, 38, 84])
 .ret))))))⟩

-- (overseer/invariant.table).flows
def s49 : SFn := ⟨39, [.tmp 4],
 (.seq (.region [⟨(some 2), .box .dyn (.t 0), [], none⟩,
   ⟨(some 4), .mov (.c (.bool false)), [], none⟩] [] [0, 4])
 (.seq (.seq (.region [⟨(some 10), .faddr 1 (.t 2), [], none⟩,
   ⟨(some 11), .load none (.t 10), [0], none⟩,
   ⟨(some 12), .len 1 (.t 11), [1], none⟩,
   ⟨(some 13), .mov (.c (.int .i64 0)), [], none⟩] [] [2, 10])
 (.block 0 (.loop (.seq (.region [⟨(some 14), .bin .lss (.t 13) (.t 12), [], none⟩] [] [])
 (.seq (.cond (.t 14)
  .skip
  (.exit 0))
 (.seq (.block 1 (.seq (.region [⟨(some 15), .iaddr none 10 (.t 11) (.t 13), [], none⟩,
   ⟨(some 16), .load (some 10) (.t 15), [0], none⟩,
   ⟨(some 6), .alloc .dyn (.agg [(.int .i64 0), (.int .i64 0), (.int .i64 0), (.int .i64 0), (.int .i64 0), (.int .i64 0), (.int .i64 0), (.int .i64 0), (.int .i64 0), (.int .i64 0)]), [], none⟩,
   ⟨none, .store 10 (.t 6) (.t 16), [2, 1, 0, 1, 2], none⟩] [] [14, 15, 16])
 (.seq (.region [⟨(some 7), .mov (.c (.int .i64 0)), [], none⟩] [] [])
 (.seq (.seq (.region [⟨(some 17), .mov (.t 1), [], none⟩,
   ⟨(some 18), .len 1 (.t 17), [0], none⟩,
   ⟨(some 19), .mov (.c (.int .i64 0)), [], none⟩] [] [])
 (.block 2 (.loop (.seq (.region [⟨(some 20), .bin .lss (.t 19) (.t 18), [], none⟩] [] [])
 (.seq (.cond (.t 20)
  .skip
  (.exit 2))
 (.seq (.block 3 (.seq (.region [⟨(some 21), .mov (.t 19), [], none⟩,
   ⟨(some 22), .iaddr none 1 (.t 17) (.t 19), [], none⟩,
   ⟨(some 23), .load none (.t 22), [1], none⟩,
   ⟨(some 8), .mov (.t 21), [0, 0, 1, 2], none⟩,
   ⟨(some 9), .mov (.t 23), [2, 3, 0, 1, 2, 3], none⟩] [] [20, 21, 22, 23])
 (.region [⟨(some 24), .mov (.t 7), [], none⟩,
   ⟨(some 25), .mov (.t 8), [], none⟩,
   ⟨(some 26), .iaddr (some 10) 1 (.t 6) (.t 25), [1], none⟩,
   ⟨(some 27), .load none (.t 26), [2], none⟩,
   ⟨(some 28), .mov (.t 9), [], none⟩,
   ⟨(some 29), .bin .mul (.t 27) (.t 28), [3, 4], none⟩,
   ⟨(some 30), .bin .add (.t 24) (.t 29), [0, 5], none⟩,
   ⟨(some 7), .mov (.t 30), [6, 0, 1, 2, 3, 4, 5, 6], none⟩] [] [8, 9, 24, 25, 26, 27, 28, 29, 30])))
 (.region [⟨(some 31), .bin .add (.t 19) (.c (.int .i64 1)), [], none⟩,
   ⟨(some 19), .mov (.t 31), [0], none⟩] [] [31])))))))
 (.seq (.region [⟨(some 32), .mov (.t 7), [], none⟩,
   ⟨(some 33), .bin .neq (.t 32) (.c (.int .i64 0)), [0], none⟩] [] [6, 7, 17, 18, 19, 32])
 (.cond (.t 33)
  (.seq (.region [⟨(some 4), .mov (.c (.bool false)), [], none⟩] [] [1, 11, 12, 13, 33])
  .ret)
  .skip))))))
 (.region [⟨(some 34), .bin .add (.t 13) (.c (.int .i64 1)), [], none⟩,
   ⟨(some 13), .mov (.t 34), [0], none⟩] [] [4, 33, 34])))))))
 (.seq (.region [⟨(some 35), .mov (.t 1), [], none⟩,
   ⟨(some 36), .call .pure (.f 30) [(.t 35)], [0], none⟩,
   ⟨(some 37), .len 1 (.t 36), [1], none⟩,
   ⟨(some 38), .bin .gtr (.t 37) (.c (.int .i64 0)), [2], none⟩,
   ⟨(some 4), .mov (.t 38), [3, 1, 0, 1, 2, 3], none⟩] [] [1, 11, 12, 13, 35, 36, 37, 38])
 .ret)))⟩

-- overseer/invariant.within
def s50 : SFn := ⟨5, [.tmp 2],
 (.seq (.region [⟨(some 2), .mov (.c (.int .i64 0)), [], none⟩] [] [2])
 (.seq (.seq (.region [⟨(some 3), .mov (.t 0), [], none⟩,
   ⟨(some 4), .call .pure (.f 66) [(.t 3), (.f 67)], [0], none⟩] [] [0, 3])
 (.cond (.t 4)
  (.seq (.region [⟨(some 2), .mov (.c (.int .i64 2)), [], none⟩] [] [4])
  .ret)
  .skip))
 (.seq (.region [⟨(some 2), .mov (.c (.int .i64 0)), [], none⟩] [] [4])
 .ret)))⟩

-- overseer/net.tokens
def s57 : SFn := ⟨6, [.tmp 2],
 (.seq (.region [⟨(some 2), .mov (.c (.bool false)), [], none⟩] [] [2])
 (.seq (.region [⟨(some 3), .mov (.t 0), [], none⟩,
   ⟨(some 4), .call .pure (.f 66) [(.t 3), (.f 69)], [0], none⟩,
   ⟨(some 5), .un .not (.t 4), [1], none⟩,
   ⟨(some 2), .mov (.t 5), [2, 1, 0, 1, 2], none⟩] [] [0, 3, 4, 5])
 .ret))⟩

-- overseer/net.checkArcs
def s58 : SFn := ⟨48, [.tmp 4],
 (.seq (.region [⟨(some 4), .mov (.c (.int .i64 0)), [], none⟩] [] [4])
 (.seq (.seq (.region [⟨(some 7), .mov (.t 0), [], none⟩,
   ⟨(some 8), .len 1 (.t 7), [0], none⟩,
   ⟨(some 9), .mov (.c (.int .i64 0)), [], none⟩] [] [])
 (.block 0 (.loop (.seq (.region [⟨(some 10), .bin .lss (.t 9) (.t 8), [], none⟩] [] [])
 (.seq (.cond (.t 10)
  .skip
  (.exit 0))
 (.seq (.block 1 (.seq (.region [⟨(some 11), .mov (.t 9), [], none⟩,
   ⟨(some 12), .iaddr none 2 (.t 7) (.t 9), [], none⟩,
   ⟨(some 13), .load (some 2) (.t 12), [1], none⟩,
   ⟨(some 6), .alloc .dyn (.agg [(.int .i64 0), (.int .i64 0)]), [], none⟩,
   ⟨(some 5), .mov (.t 11), [0, 0, 1, 2, 3], none⟩,
   ⟨none, .store 2 (.t 6) (.t 13), [3, 2, 4, 0, 1, 2, 3, 4], none⟩] [] [10, 11, 12, 13])
 (.block 2 (.seq (.region [⟨(some 15), .faddr 0 (.t 6), [], none⟩,
   ⟨(some 16), .load none (.t 15), [0], none⟩,
   ⟨(some 17), .bin .lss (.t 16) (.c (.int .i64 0)), [1], none⟩,
   ⟨(some 18), .mov (.t 17), [2], none⟩,
   ⟨(some 19), .faddr 0 (.t 6), [3], (some (18, false))⟩,
   ⟨(some 20), .load none (.t 19), [4, 3], (some (18, false))⟩,
   ⟨(some 21), .mov (.t 1), [3], (some (18, false))⟩,
   ⟨(some 22), .bin .geq (.t 20) (.t 21), [5, 6, 3], (some (18, false))⟩,
   ⟨(some 23), .pick (.t 18) (.c (.bool true)) (.t 22), [3, 7], none⟩,
   ⟨(some 14), .mov (.t 23), [8, 3], none⟩] [] [15, 16, 17, 18, 23])
 (.cond (.t 14)
  (.seq (.region [⟨(some 4), .mov (.c (.int .i64 2)), [], none⟩] [] [0, 1, 7, 8, 9, 45, 44, 43, 36, 29, 35, 34, 33, 30, 32, 31, 28, 22, 20, 21, 19, 6, 5, 14])
  .ret)
  (.seq (.region [⟨(some 25), .mov (.t 5), [], none⟩,
    ⟨(some 26), .bin .gtr (.t 25) (.c (.int .i64 0)), [0], none⟩,
    ⟨(some 27), .mov (.t 26), [1], none⟩,
    ⟨(some 28), .faddr 0 (.t 6), [2], (some (27, true))⟩,
    ⟨(some 29), .load none (.t 28), [3, 2], (some (27, true))⟩,
    ⟨(some 30), .mov (.t 0), [2], (some (27, true))⟩,
    ⟨(some 31), .mov (.t 5), [2], (some (27, true))⟩,
    ⟨(some 32), .bin .sub (.t 31) (.c (.int .i64 1)), [6, 2], (some (27, true))⟩,
    ⟨(some 33), .iaddr none 2 (.t 30) (.t 32), [5, 7, 2], (some (27, true))⟩,
    ⟨(some 34), .faddr 0 (.t 33), [8, 2], (some (27, true))⟩,
    ⟨(some 35), .load none (.t 34), [9, 2], (some (27, true))⟩,
    ⟨(some 36), .bin .leq (.t 29) (.t 35), [4, 10, 2], (some (27, true))⟩,
    ⟨(some 37), .pick (.t 27) (.t 36) (.c (.bool false)), [2, 11], none⟩,
    ⟨(some 24), .mov (.t 37), [12, 2], none⟩] [] [5, 14, 25, 26, 27, 37])
  (.cond (.t 24)
   (.seq (.region [⟨(some 4), .mov (.c (.int .i64 5)), [], none⟩] [] [0, 1, 7, 8, 9, 45, 44, 43, 36, 29, 35, 34, 33, 30, 32, 31, 28, 22, 20, 21, 19, 6, 24])
   .ret)
   (.seq (.region [⟨(some 39), .faddr 1 (.t 6), [], none⟩,
     ⟨(some 40), .load none (.t 39), [0], none⟩,
     ⟨(some 41), .bin .lss (.t 40) (.c (.int .i64 1)), [1], none⟩,
     ⟨(some 42), .mov (.t 41), [2], none⟩,
     ⟨(some 43), .faddr 1 (.t 6), [3], (some (42, false))⟩,
     ⟨(some 44), .load none (.t 43), [4, 3], (some (42, false))⟩,
     ⟨(some 45), .bin .gtr (.t 44) (.c (.int .i64 8)), [5, 3], (some (42, false))⟩,
     ⟨(some 46), .pick (.t 42) (.c (.bool true)) (.t 45), [3, 6], none⟩,
     ⟨(some 38), .mov (.t 46), [7, 3], none⟩] [] [6, 24, 39, 40, 41, 42, 46])
   (.cond (.t 38)
    (.seq (.region [⟨(some 4), .mov (.c (.int .i64 2)), [], none⟩] [] [0, 1, 7, 8, 9, 45, 44, 43, 36, 29, 35, 34, 33, 30, 32, 31, 28, 22, 20, 21, 19, 38])
    .ret)
    .skip)))))))))
 (.region [⟨(some 47), .bin .add (.t 9) (.c (.int .i64 1)), [], none⟩,
   ⟨(some 9), .mov (.t 47), [0], none⟩] [] [4, 38, 47])))))))
 (.seq (.region [⟨(some 4), .mov (.c (.int .i64 0)), [], none⟩] [] [0, 1, 7, 8, 9, 45, 44, 43, 36, 29, 35, 34, 33, 30, 32, 31, 28, 22, 20, 21, 19])
 .ret)))⟩

-- slices.ContainsFunc[[]int,int]
def s66 : SFn := ⟨9, [.tmp 4],
 (.seq (.region [⟨(some 4), .mov (.c (.bool false)), [], none⟩] [] [4])
 (.seq (.region [⟨(some 5), .mov (.t 0), [], none⟩,
   ⟨(some 6), .mov (.t 1), [], none⟩,
   ⟨(some 7), .call .pure (.f 76) [(.t 5), (.t 6)], [0, 1], none⟩,
   ⟨(some 8), .bin .geq (.t 7) (.c (.int .i64 0)), [2], none⟩,
   ⟨(some 4), .mov (.t 8), [3, 2, 0, 1, 2, 3], none⟩] [] [0, 1, 5, 6, 7, 8])
 .ret))⟩

-- overseer/invariant.within$1
def s67 : SFn := ⟨9, [.tmp 2],
 (.seq (.region [⟨(some 2), .mov (.c (.bool false)), [], none⟩] [] [2])
 (.seq (.region [⟨(some 3), .mov (.t 0), [], none⟩,
   ⟨(some 4), .bin .lss (.t 3) (.c (.int .i64 0)), [0], none⟩,
   ⟨(some 5), .mov (.t 4), [1], none⟩,
   ⟨(some 6), .mov (.t 0), [2], (some (5, false))⟩,
   ⟨(some 7), .bin .gtr (.t 6) (.c (.int .i64 65536)), [3, 2], (some (5, false))⟩,
   ⟨(some 8), .pick (.t 5) (.c (.bool true)) (.t 7), [2, 4], none⟩,
   ⟨(some 2), .mov (.t 8), [5, 2, 0, 1, 2, 3, 4, 5], none⟩] [] [0, 3, 4, 5, 6, 7, 8])
 .ret))⟩

-- overseer/net.tokens$1
def s69 : SFn := ⟨9, [.tmp 2],
 (.seq (.region [⟨(some 2), .mov (.c (.bool false)), [], none⟩] [] [2])
 (.seq (.region [⟨(some 3), .mov (.t 0), [], none⟩,
   ⟨(some 4), .bin .lss (.t 3) (.c (.int .i64 0)), [0], none⟩,
   ⟨(some 5), .mov (.t 4), [1], none⟩,
   ⟨(some 6), .mov (.t 0), [2], (some (5, false))⟩,
   ⟨(some 7), .bin .gtr (.t 6) (.c (.int .i64 65536)), [3, 2], (some (5, false))⟩,
   ⟨(some 8), .pick (.t 5) (.c (.bool true)) (.t 7), [2, 4], none⟩,
   ⟨(some 2), .mov (.t 8), [5, 2, 0, 1, 2, 3, 4, 5], none⟩] [] [0, 3, 4, 5, 6, 7, 8])
 .ret))⟩

-- slices.IndexFunc[[]int,int]
def s76 : SFn := ⟨19, [.tmp 4],
 (.seq (.region [⟨(some 4), .mov (.c (.int .i64 0)), [], none⟩] [] [4])
 (.seq (.seq (.region [⟨(some 6), .mov (.t 0), [], none⟩,
   ⟨(some 7), .len 1 (.t 6), [0], none⟩,
   ⟨(some 8), .mov (.c (.int .i64 0)), [], none⟩] [] [6])
 (.block 0 (.loop (.seq (.region [⟨(some 9), .bin .lss (.t 8) (.t 7), [], none⟩] [] [])
 (.seq (.cond (.t 9)
  .skip
  (.exit 0))
 (.seq (.block 1 (.seq (.region [⟨(some 10), .mov (.t 8), [], none⟩,
   ⟨(some 5), .mov (.t 10), [0, 0], none⟩] [] [9, 10])
 (.seq (.region [⟨(some 11), .mov (.t 1), [], none⟩,
   ⟨(some 12), .mov (.t 0), [], none⟩,
   ⟨(some 13), .mov (.t 5), [], none⟩,
   ⟨(some 14), .iaddr none 1 (.t 12) (.t 13), [1, 2], none⟩,
   ⟨(some 15), .load none (.t 14), [3], none⟩,
   ⟨(some 16), .call .pure (.t 11) [(.t 15)], [0, 4], none⟩] [] [11, 12, 13, 14, 15])
 (.cond (.t 16)
  (.seq (.region [⟨(some 17), .mov (.t 5), [], none⟩,
    ⟨(some 4), .mov (.t 17), [0, 0], none⟩] [] [0, 1, 7, 8, 5, 16, 17])
  .ret)
  .skip))))
 (.region [⟨(some 18), .bin .add (.t 8) (.c (.int .i64 1)), [], none⟩,
   ⟨(some 8), .mov (.t 18), [0], none⟩] [] [4, 5, 16, 18])))))))
 (.seq (.region [⟨(some 4), .mov (.c (.int .i64 (-1))), [], none⟩] [] [0, 1, 7, 8])
 .ret)))⟩

def ft : FT := (.n 30 (.n 22 (.n 18 (.n 13 (.n 7 (.l 4 s4) (.l 7 s7)) (.n 17 (.l 13 s13) (.l 17 s17))) (.n 20 (.n 19 (.l 18 s18) (.l 19 s19)) (.n 21 (.l 20 s20) (.l 21 s21)))) (.n 26 (.n 24 (.n 23 (.l 22 s22) (.l 23 s23)) (.n 25 (.l 24 s24) (.l 25 s25))) (.n 28 (.n 27 (.l 26 s26) (.l 27 s27)) (.n 29 (.l 28 s28) (.l 29 s29))))) (.n 49 (.n 45 (.n 37 (.n 32 (.l 30 s30) (.l 32 s32)) (.n 39 (.l 37 s37) (.l 39 s39))) (.n 47 (.n 46 (.l 45 s45) (.l 46 s46)) (.n 48 (.l 47 s47) (.l 48 s48)))) (.n 66 (.n 57 (.n 50 (.l 49 s49) (.l 50 s50)) (.n 58 (.l 57 s57) (.l 58 s58))) (.n 69 (.n 67 (.l 66 s66) (.l 67 s67)) (.n 76 (.l 69 s69) (.l 76 s76))))))

theorem ok4 : okFn Try.prog 4 s4 = true := by kernel_rfl
theorem ok7 : okFn Try.prog 7 s7 = true := by kernel_rfl
theorem ok13 : okFn Try.prog 13 s13 = true := by kernel_rfl
theorem ok17 : okFn Try.prog 17 s17 = true := by kernel_rfl
theorem ok18 : okFn Try.prog 18 s18 = true := by kernel_rfl
theorem ok19 : okFn Try.prog 19 s19 = true := by kernel_rfl
theorem ok20 : okFn Try.prog 20 s20 = true := by kernel_rfl
theorem ok21 : okFn Try.prog 21 s21 = true := by kernel_rfl
theorem ok22 : okFn Try.prog 22 s22 = true := by kernel_rfl
theorem ok23 : okFn Try.prog 23 s23 = true := by kernel_rfl
theorem ok24 : okFn Try.prog 24 s24 = true := by kernel_rfl
theorem ok25 : okFn Try.prog 25 s25 = true := by kernel_rfl
theorem ok26 : okFn Try.prog 26 s26 = true := by kernel_rfl
theorem ok27 : okFn Try.prog 27 s27 = true := by kernel_rfl
theorem ok28 : okFn Try.prog 28 s28 = true := by kernel_rfl
theorem ok29 : okFn Try.prog 29 s29 = true := by kernel_rfl
theorem ok30 : okFn Try.prog 30 s30 = true := by kernel_rfl
theorem ok32 : okFn Try.prog 32 s32 = true := by kernel_rfl
theorem ok37 : okFn Try.prog 37 s37 = true := by kernel_rfl
theorem ok39 : okFn Try.prog 39 s39 = true := by kernel_rfl
theorem ok45 : okFn Try.prog 45 s45 = true := by kernel_rfl
theorem ok46 : okFn Try.prog 46 s46 = true := by kernel_rfl
theorem ok47 : okFn Try.prog 47 s47 = true := by kernel_rfl
theorem ok48 : okFn Try.prog 48 s48 = true := by kernel_rfl
theorem ok49 : okFn Try.prog 49 s49 = true := by kernel_rfl
theorem ok50 : okFn Try.prog 50 s50 = true := by kernel_rfl
theorem ok57 : okFn Try.prog 57 s57 = true := by kernel_rfl
theorem ok58 : okFn Try.prog 58 s58 = true := by kernel_rfl
theorem ok66 : okFn Try.prog 66 s66 = true := by kernel_rfl
theorem ok67 : okFn Try.prog 67 s67 = true := by kernel_rfl
theorem ok69 : okFn Try.prog 69 s69 = true := by kernel_rfl
theorem ok76 : okFn Try.prog 76 s76 = true := by kernel_rfl
theorem ft_ok : ft.OK Try.prog := ⟨⟨⟨⟨⟨ok4, ok7⟩, ⟨ok13, ok17⟩⟩, ⟨⟨ok18, ok19⟩, ⟨ok20, ok21⟩⟩⟩, ⟨⟨⟨ok22, ok23⟩, ⟨ok24, ok25⟩⟩, ⟨⟨ok26, ok27⟩, ⟨ok28, ok29⟩⟩⟩⟩, ⟨⟨⟨⟨ok30, ok32⟩, ⟨ok37, ok39⟩⟩, ⟨⟨ok45, ok46⟩, ⟨ok47, ok48⟩⟩⟩, ⟨⟨⟨ok49, ok50⟩, ⟨ok57, ok58⟩⟩, ⟨⟨ok66, ok67⟩, ⟨ok69, ok76⟩⟩⟩⟩⟩

end Go.AM.SN
