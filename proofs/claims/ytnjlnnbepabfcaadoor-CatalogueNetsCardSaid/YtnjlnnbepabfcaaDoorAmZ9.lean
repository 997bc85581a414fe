/- A part of the proof of CatalogueNetsCardSaid: lemmas on the way (AmIaa, AmIab, AmIa, AmQa, AmQb, AmQc). Conditions: none of ours. -/
import Derived.Test.YtnjlnnbepabfcaaDoorProg
import Derived.KernelRfl
import Derived.Test.YtnjlnnbepabfcaaDoorAmZ8
set_option linter.unusedSectionVars false
set_option maxRecDepth 100000
namespace Go.AM.IA
open Go.Proofs
def f3 : FFn := ⟨212, [.tmp 2],
 (.seq (.region [⟨true, ⟨(some 2), .mov (.c (.bool false)), [], none⟩⟩] [] 4)
 (.seq (.seq (.region [⟨true, ⟨(some 19), .call .pure (.f 4) [], [], none⟩⟩,
   ⟨true, ⟨(some 20), .un .not (.t 19), [0], none⟩⟩] [] 524288)
 (.cond (.t 20)
  (.seq (.region [⟨true, ⟨(some 2), .mov (.c (.bool false)), [], none⟩⟩] [] 1048577)
  .ret)
  .skip))
 (.seq (.region [⟨true, ⟨(some 22), .mov (.t 0), [], none⟩⟩,
   ⟨true, ⟨(some 23), .call .heap (.f 5) [(.t 22)], [0], none⟩⟩,
   ⟨true, ⟨(some 21), .mov (.t 23), [1], none⟩⟩,
   ⟨true, ⟨(some 24), .extract 0 (.t 21), [2], none⟩⟩,
   ⟨true, ⟨(some 25), .extract 1 (.t 21), [2], none⟩⟩,
   ⟨true, ⟨(some 3), .alloc .dyn (.agg [.nilsl, .nilsl]), [], none⟩⟩,
   ⟨false, ⟨none, .store 2 (.t 3) (.t 24), [5, 3, 1, 0, 1, 2, 3, 5], none⟩⟩,
   ⟨true, ⟨(some 4), .mov (.t 25), [4, 6, 0, 1, 2, 3, 4, 5, 6], none⟩⟩] [] 66060292)
 (.seq (.region [⟨true, ⟨(some 27), .mov (.t 0), [], none⟩⟩,
   ⟨true, ⟨(some 28), .call .heap (.f 6) [(.t 27)], [0], none⟩⟩,
   ⟨true, ⟨(some 26), .mov (.t 28), [1], none⟩⟩,
   ⟨true, ⟨(some 29), .extract 0 (.t 26), [2], none⟩⟩,
   ⟨true, ⟨(some 30), .extract 1 (.t 26), [2], none⟩⟩,
   ⟨true, ⟨(some 5), .alloc .dyn (.agg [(.int .i64 (.ofNat 0)), (.int .i64 (.ofNat 0)), .nilsl, .nilsl]), [], none⟩⟩,
   ⟨false, ⟨none, .store 4 (.t 5) (.t 29), [5, 3, 1, 0, 1, 2, 3, 5], none⟩⟩,
   ⟨true, ⟨(some 6), .mov (.t 30), [4, 6, 0, 1, 2, 3, 4, 5, 6], none⟩⟩] [] 2080374784)
 (.seq (.seq (.region [⟨true, ⟨(some 31), .mov (.t 0), [], none⟩⟩,
   ⟨true, ⟨(some 32), .bin .lss (.t 31) (.c (.int .i64 (.ofNat 2))), [0], none⟩⟩,
   ⟨true, ⟨(some 33), .mov (.t 32), [1], none⟩⟩,
   ⟨true, ⟨(some 34), .mov (.t 0), [2], (some (33, false))⟩⟩,
   ⟨true, ⟨(some 35), .bin .gtr (.t 34) (.c (.int .i64 (.ofNat 3))), [3, 2], (some (33, false))⟩⟩,
   ⟨true, ⟨(some 36), .pick (.t 33) (.c (.bool true)) (.t 35), [2, 4], none⟩⟩] [] 66571993088)
 (.cond (.t 36)
  (.seq (.region [⟨true, ⟨(some 37), .faddr 0 (.t 3), [], none⟩⟩,
    ⟨true, ⟨(some 38), .load none (.t 37), [0], none⟩⟩,
    ⟨true, ⟨(some 39), .len 1 (.t 38), [1], none⟩⟩,
    ⟨true, ⟨(some 40), .bin .eql (.t 39) (.c (.int .i64 (.ofNat 0))), [2], none⟩⟩,
    ⟨true, ⟨(some 41), .mov (.t 40), [3], none⟩⟩,
    ⟨true, ⟨(some 42), .mov (.t 4), [4], (some (41, true))⟩⟩,
    ⟨true, ⟨(some 43), .bin .eql (.t 42) (.c (.int .i64 (.ofNat 2))), [5, 4], (some (41, true))⟩⟩,
    ⟨true, ⟨(some 44), .pick (.t 41) (.t 43) (.c (.bool false)), [4, 6], none⟩⟩,
    ⟨true, ⟨(some 45), .mov (.t 44), [7, 4], none⟩⟩,
    ⟨true, ⟨(some 46), .faddr 0 (.t 5), [8], (some (45, true))⟩⟩,
    ⟨true, ⟨(some 47), .load none (.t 46), [9, 8], (some (45, true))⟩⟩,
    ⟨true, ⟨(some 48), .faddr 1 (.t 5), [8], (some (45, true))⟩⟩,
    ⟨true, ⟨(some 49), .load none (.t 48), [11, 8], (some (45, true))⟩⟩,
    ⟨true, ⟨(some 50), .bin .add (.t 47) (.t 49), [10, 12, 8], (some (45, true))⟩⟩,
    ⟨true, ⟨(some 51), .bin .eql (.t 50) (.c (.int .i64 (.ofNat 0))), [13, 8], (some (45, true))⟩⟩,
    ⟨true, ⟨(some 52), .pick (.t 45) (.t 51) (.c (.bool false)), [8, 14], none⟩⟩,
    ⟨true, ⟨(some 53), .mov (.t 52), [15, 8], none⟩⟩,
    ⟨true, ⟨(some 54), .faddr 2 (.t 5), [16], (some (53, true))⟩⟩,
    ⟨true, ⟨(some 55), .load none (.t 54), [17, 16], (some (53, true))⟩⟩,
    ⟨true, ⟨(some 56), .len 1 (.t 55), [18, 16], (some (53, true))⟩⟩,
    ⟨true, ⟨(some 57), .faddr 3 (.t 5), [16], (some (53, true))⟩⟩,
    ⟨true, ⟨(some 58), .load none (.t 57), [20, 16], (some (53, true))⟩⟩,
    ⟨true, ⟨(some 59), .len 1 (.t 58), [21, 16], (some (53, true))⟩⟩,
    ⟨true, ⟨(some 60), .bin .add (.t 56) (.t 59), [19, 22, 16], (some (53, true))⟩⟩,
    ⟨true, ⟨(some 61), .bin .eql (.t 60) (.c (.int .i64 (.ofNat 0))), [23, 16], (some (53, true))⟩⟩,
    ⟨true, ⟨(some 62), .pick (.t 53) (.t 61) (.c (.bool false)), [16, 24], none⟩⟩,
    ⟨true, ⟨(some 63), .mov (.t 62), [25, 16], none⟩⟩,
    ⟨true, ⟨(some 64), .mov (.t 6), [26], (some (63, true))⟩⟩,
    ⟨true, ⟨(some 65), .bin .eql (.t 64) (.c (.int .i64 (.ofNat 2))), [27, 26], (some (63, true))⟩⟩,
    ⟨true, ⟨(some 66), .pick (.t 63) (.t 65) (.c (.bool false)), [26, 28], none⟩⟩,
    ⟨true, ⟨(some 2), .mov (.t 66), [29, 26, 0, 1, 2, 3, 4, 5, 6, 7, 8, 9, 10, 11, 12, 13, 14, 15, 16, 17, 18, 19, 20, 21, 22, 23, 24, 25, 26, 27, 28, 29], none⟩⟩] [] 147573952520956936313)
  .ret)
  .skip))
 (.seq (.region [⟨true, ⟨(some 68), .load (some 2) (.t 3), [], none⟩⟩,
   ⟨true, ⟨(some 69), .call .heap (.f 7) [(.t 68)], [0], none⟩⟩,
   ⟨true, ⟨(some 67), .mov (.t 69), [1], none⟩⟩,
   ⟨true, ⟨(some 70), .extract 0 (.t 67), [2], none⟩⟩,
   ⟨true, ⟨(some 71), .extract 1 (.t 67), [2], none⟩⟩,
   ⟨true, ⟨(some 72), .extract 2 (.t 67), [2], none⟩⟩,
   ⟨true, ⟨(some 7), .mov (.t 70), [3, 1, 0, 1, 2, 3], none⟩⟩,
   ⟨true, ⟨(some 8), .mov (.t 71), [4, 6, 0, 1, 2, 3, 4, 6], none⟩⟩,
   ⟨true, ⟨(some 9), .mov (.t 72), [5, 7, 0, 1, 2, 3, 4, 5, 6, 7], none⟩⟩] [] 9297159013218333491332)
 (.seq (.region [⟨true, ⟨(some 74), .load (some 2) (.t 3), [], none⟩⟩,
   ⟨true, ⟨(some 75), .call .heap (.f 8) [(.t 74)], [0], none⟩⟩,
   ⟨true, ⟨(some 73), .mov (.t 75), [1], none⟩⟩,
   ⟨true, ⟨(some 76), .extract 0 (.t 73), [2], none⟩⟩,
   ⟨true, ⟨(some 77), .extract 1 (.t 73), [2], none⟩⟩,
   ⟨true, ⟨(some 10), .mov (.t 76), [3, 1, 0, 1, 2, 3], none⟩⟩,
   ⟨true, ⟨(some 11), .mov (.t 77), [4, 5, 0, 1, 2, 3, 4, 5], none⟩⟩] [] 292786721937918003249152)
 (.seq (.region [⟨true, ⟨(some 79), .load (some 2) (.t 3), [], none⟩⟩,
   ⟨true, ⟨(some 80), .call .heap (.f 9) [(.t 79)], [0], none⟩⟩,
   ⟨true, ⟨(some 78), .mov (.t 80), [1], none⟩⟩,
   ⟨true, ⟨(some 81), .extract 0 (.t 78), [2], none⟩⟩,
   ⟨true, ⟨(some 82), .extract 1 (.t 78), [2], none⟩⟩,
   ⟨true, ⟨(some 83), .extract 2 (.t 78), [2], none⟩⟩,
   ⟨true, ⟨(some 12), .mov (.t 81), [3, 1, 0, 1, 2, 3], none⟩⟩,
   ⟨true, ⟨(some 13), .mov (.t 82), [4, 6, 0, 1, 2, 3, 4, 6], none⟩⟩,
   ⟨true, ⟨(some 14), .mov (.t 83), [5, 7, 0, 1, 2, 3, 4, 5, 6, 7], none⟩⟩] [] 19040581658930409501622272)
 (.seq (.seq (.region [⟨true, ⟨(some 84), .mov (.t 4), [], none⟩⟩,
   ⟨true, ⟨(some 85), .bin .neq (.t 84) (.c (.int .i64 (.ofNat 0))), [0], none⟩⟩,
   ⟨true, ⟨(some 86), .mov (.t 85), [1], none⟩⟩,
   ⟨true, ⟨(some 87), .mov (.t 6), [2], (some (86, false))⟩⟩,
   ⟨true, ⟨(some 88), .bin .neq (.t 87) (.c (.int .i64 (.ofNat 0))), [3, 2], (some (86, false))⟩⟩,
   ⟨true, ⟨(some 89), .pick (.t 86) (.c (.bool true)) (.t 88), [2, 4], none⟩⟩,
   ⟨true, ⟨(some 90), .mov (.t 89), [5, 2], none⟩⟩,
   ⟨true, ⟨(some 91), .mov (.t 9), [6], (some (90, false))⟩⟩,
   ⟨true, ⟨(some 92), .bin .neq (.t 91) (.c (.int .i64 (.ofNat 0))), [7, 6], (some (90, false))⟩⟩,
   ⟨true, ⟨(some 93), .pick (.t 90) (.c (.bool true)) (.t 92), [6, 8], none⟩⟩,
   ⟨true, ⟨(some 94), .mov (.t 93), [9, 6], none⟩⟩,
   ⟨true, ⟨(some 95), .mov (.t 11), [10], (some (94, false))⟩⟩,
   ⟨true, ⟨(some 96), .bin .neq (.t 95) (.c (.int .i64 (.ofNat 0))), [11, 10], (some (94, false))⟩⟩,
   ⟨true, ⟨(some 97), .pick (.t 94) (.c (.bool true)) (.t 96), [10, 12], none⟩⟩,
   ⟨true, ⟨(some 98), .mov (.t 97), [13, 10], none⟩⟩,
   ⟨true, ⟨(some 99), .mov (.t 14), [14], (some (98, false))⟩⟩,
   ⟨true, ⟨(some 100), .bin .neq (.t 99) (.c (.int .i64 (.ofNat 0))), [15, 14], (some (98, false))⟩⟩,
   ⟨true, ⟨(some 101), .pick (.t 98) (.c (.bool true)) (.t 100), [14, 16], none⟩⟩,
   ⟨true, ⟨(some 102), .mov (.t 101), [17, 14], none⟩⟩,
   ⟨true, ⟨(some 103), .load (some 2) (.t 3), [18], (some (102, false))⟩⟩,
   ⟨true, ⟨(some 104), .mov (.t 0), [18], (some (102, false))⟩⟩,
   ⟨true, ⟨(some 105), .call .pure (.f 11) [(.t 104)], [20, 18, 18], (some (102, false))⟩⟩,
   ⟨true, ⟨(some 106), .call .heap (.f 10) [(.t 103), (.t 105)], [19, 21, 21, 18], (some (102, false))⟩⟩,
   ⟨true, ⟨(some 107), .un .not (.t 106), [22, 18], (some (102, false))⟩⟩,
   ⟨true, ⟨(some 108), .pick (.t 102) (.c (.bool true)) (.t 107), [18, 23], none⟩⟩,
   ⟨true, ⟨(some 109), .mov (.t 108), [24, 22], none⟩⟩,
   ⟨true, ⟨(some 110), .faddr 0 (.t 5), [25], (some (109, false))⟩⟩,
   ⟨true, ⟨(some 111), .load none (.t 110), [26, 25], (some (109, false))⟩⟩,
   ⟨true, ⟨(some 112), .bslice false .dyn 1 2 [(.int .i64 (.ofNat 0)), (.int .i64 (.ofNat 0))] [(0, 1, (.c (.int .i64 (.ofNat 6)))), (1, 1, (.c (.int .i64 (.ofNat 14))))], [25], (some (109, false))⟩⟩,
   ⟨true, ⟨(some 113), .mov (.t 0), [25], (some (109, false))⟩⟩,
   ⟨true, ⟨(some 114), .bin .sub (.t 113) (.c (.int .i64 (.ofNat 2))), [29, 25], (some (109, false))⟩⟩,
   ⟨true, ⟨(some 115), .iaddr none 1 (.t 112) (.t 114), [28, 30, 25], (some (109, false))⟩⟩,
   ⟨true, ⟨(some 116), .load none (.t 115), [31, 25], (some (109, false))⟩⟩,
   ⟨true, ⟨(some 117), .bin .neq (.t 111) (.t 116), [27, 32, 25], (some (109, false))⟩⟩,
   ⟨true, ⟨(some 118), .pick (.t 109) (.c (.bool true)) (.t 117), [25, 33], none⟩⟩,
   ⟨true, ⟨(some 119), .mov (.t 118), [34, 25], none⟩⟩,
   ⟨true, ⟨(some 120), .mov (.t 8), [35], (some (119, false))⟩⟩,
   ⟨true, ⟨(some 121), .len 1 (.t 120), [36, 35], (some (119, false))⟩⟩,
   ⟨true, ⟨(some 122), .faddr 0 (.t 5), [35], (some (119, false))⟩⟩,
   ⟨true, ⟨(some 123), .load none (.t 122), [38, 35], (some (119, false))⟩⟩,
   ⟨true, ⟨(some 124), .bin .neq (.t 121) (.t 123), [37, 39, 35], (some (119, false))⟩⟩,
   ⟨true, ⟨(some 125), .pick (.t 119) (.c (.bool true)) (.t 124), [35, 40], none⟩⟩,
   ⟨true, ⟨(some 126), .mov (.t 125), [41, 35], none⟩⟩,
   ⟨true, ⟨(some 127), .faddr 1 (.t 5), [42], (some (126, false))⟩⟩,
   ⟨true, ⟨(some 128), .load none (.t 127), [43, 42], (some (126, false))⟩⟩,
   ⟨true, ⟨(some 129), .bin .neq (.t 128) (.c (.int .i64 (.ofNat 1))), [44, 42], (some (126, false))⟩⟩,
   ⟨true, ⟨(some 130), .pick (.t 126) (.c (.bool true)) (.t 129), [42, 45], none⟩⟩,
   ⟨true, ⟨(some 131), .mov (.t 130), [46, 42], none⟩⟩,
   ⟨true, ⟨(some 132), .mov (.t 10), [47], (some (131, false))⟩⟩,
   ⟨true, ⟨(some 133), .len 1 (.t 132), [48, 47], (some (131, false))⟩⟩,
   ⟨true, ⟨(some 134), .bin .neq (.t 133) (.c (.int .i64 (.ofNat 1))), [49, 47], (some (131, false))⟩⟩,
   ⟨true, ⟨(some 135), .pick (.t 131) (.c (.bool true)) (.t 134), [47, 50], none⟩⟩,
   ⟨true, ⟨(some 136), .mov (.t 135), [51, 47], none⟩⟩,
   ⟨true, ⟨(some 137), .mov (.t 13), [52], (some (136, false))⟩⟩,
   ⟨true, ⟨(some 138), .un .not (.t 137), [53, 52], (some (136, false))⟩⟩,
   ⟨true, ⟨(some 139), .pick (.t 136) (.c (.bool true)) (.t 138), [52, 54], none⟩⟩,
   ⟨true, ⟨(some 140), .mov (.t 139), [55, 52], none⟩⟩,
   ⟨true, ⟨(some 141), .mov (.t 12), [56], (some (140, false))⟩⟩,
   ⟨true, ⟨(some 142), .faddr 2 (.t 5), [56], (some (140, false))⟩⟩,
   ⟨true, ⟨(some 143), .load none (.t 142), [58, 56], (some (140, false))⟩⟩,
   ⟨true, ⟨(some 144), .call .heap (.f 12) [(.t 141), (.t 143)], [57, 59, 56, 56], (some (140, false))⟩⟩,
   ⟨true, ⟨(some 145), .un .not (.t 144), [60, 56], (some (140, false))⟩⟩,
   ⟨true, ⟨(some 146), .pick (.t 140) (.c (.bool true)) (.t 145), [56, 61], none⟩⟩,
   ⟨true, ⟨(some 147), .mov (.t 146), [62, 60], none⟩⟩,
   ⟨true, ⟨(some 148), .faddr 3 (.t 5), [63], (some (147, false))⟩⟩,
   ⟨true, ⟨(some 149), .load none (.t 148), [64, 63], (some (147, false))⟩⟩,
   ⟨true, ⟨(some 150), .len 1 (.t 149), [65, 63], (some (147, false))⟩⟩,
   ⟨true, ⟨(some 151), .mov (.t 0), [63], (some (147, false))⟩⟩,
   ⟨true, ⟨(some 152), .bin .neq (.t 150) (.t 151), [66, 67, 63], (some (147, false))⟩⟩,
   ⟨true, ⟨(some 153), .pick (.t 147) (.c (.bool true)) (.t 152), [63, 68], none⟩⟩] [(27, 28)] 11417981541647679048446944942482127024266706768)
 (.cond (.t 153)
  (.seq (.region [⟨true, ⟨(some 2), .mov (.c (.bool false)), [], none⟩⟩] [] 11417981541647679048466287755595961091061973033)
  .ret)
  .skip))
 (.seq (.seq (.region [⟨true, ⟨(some 15), .mov (.c (.int .i64 (.ofNat 0))), [], none⟩⟩] [] 11417981541647679048466287755595961091061972996)
 (.block 0 (.loop (.seq (.seq (.region [⟨true, ⟨(some 154), .mov (.t 15), [], none⟩⟩,
   ⟨true, ⟨(some 155), .mov (.t 0), [], none⟩⟩,
   ⟨true, ⟨(some 156), .bin .lss (.t 154) (.t 155), [0, 1], none⟩⟩] [] 68507889249886074290797726533575766546371837952)
 (.cond (.t 156)
  .skip
  (.exit 0)))
 (.seq (.block 1 (.seq (.region [⟨true, ⟨(some 159), .mov (.t 0), [], none⟩⟩,
   ⟨true, ⟨(some 160), .bin .mul (.c (.int .i64 (.ofNat 3))) (.t 159), [0], none⟩⟩,
   ⟨true, ⟨(some 161), .mkslice .dyn 1 8 [(.int .i64 (.ofNat 0))] (.t 160) (.t 160), [1, 1], none⟩⟩,
   ⟨true, ⟨(some 16), .mov (.t 161), [2, 0, 1, 2], none⟩⟩] [] 5206599582991341646100627216551758257524259684352)
 (.seq (.region [⟨true, ⟨(some 162), .mov (.t 16), [], none⟩⟩,
   ⟨true, ⟨(some 163), .mov (.t 15), [], none⟩⟩,
   ⟨true, ⟨(some 164), .bin .mul (.c (.int .i64 (.ofNat 3))) (.t 163), [1], none⟩⟩,
   ⟨true, ⟨(some 165), .mov (.t 16), [], none⟩⟩,
   ⟨true, ⟨(some 166), .mov (.t 15), [], none⟩⟩,
   ⟨true, ⟨(some 167), .bin .mul (.c (.int .i64 (.ofNat 3))) (.t 166), [4], none⟩⟩,
   ⟨true, ⟨(some 168), .bin .add (.t 167) (.c (.int .i64 (.ofNat 1))), [5], none⟩⟩,
   ⟨true, ⟨(some 169), .mov (.t 16), [], none⟩⟩,
   ⟨true, ⟨(some 170), .mov (.t 15), [], none⟩⟩,
   ⟨true, ⟨(some 171), .bin .mul (.c (.int .i64 (.ofNat 3))) (.t 170), [8], none⟩⟩,
   ⟨true, ⟨(some 172), .bin .add (.t 171) (.c (.int .i64 (.ofNat 2))), [9], none⟩⟩,
   ⟨true, ⟨(some 173), .mov (.t 16), [], none⟩⟩,
   ⟨true, ⟨(some 174), .mov (.t 15), [], none⟩⟩,
   ⟨true, ⟨(some 175), .mov (.t 0), [], none⟩⟩,
   ⟨true, ⟨(some 176), .bin .add (.t 174) (.t 175), [12, 13], none⟩⟩,
   ⟨true, ⟨(some 177), .bin .sub (.t 176) (.c (.int .i64 (.ofNat 1))), [14], none⟩⟩,
   ⟨true, ⟨(some 178), .mov (.t 0), [], none⟩⟩,
   ⟨true, ⟨(some 179), .bin .rem (.t 177) (.t 178), [15, 16], none⟩⟩,
   ⟨true, ⟨(some 180), .bin .mul (.c (.int .i64 (.ofNat 3))) (.t 179), [17], none⟩⟩,
   ⟨true, ⟨(some 181), .bin .add (.t 180) (.c (.int .i64 (.ofNat 2))), [18], none⟩⟩,
   ⟨true, ⟨(some 182), .iaddr none 1 (.t 162) (.t 164), [0, 2, 0, 1, 2], none⟩⟩,
   ⟨false, ⟨none, .store 1 (.t 182) (.c (.int .i64 (.ofNat 1))), [20, 0, 1, 2], none⟩⟩,
   ⟨true, ⟨(some 183), .iaddr none 1 (.t 165) (.t 168), [3, 6, 0, 1, 2, 3, 4, 5, 6, 20, 21], none⟩⟩,
   ⟨false, ⟨none, .store 1 (.t 183) (.c (.int .i64 (.ofNat 1))), [22, 21, 0, 1, 2, 3, 4, 5, 6, 20, 21], none⟩⟩,
   ⟨true, ⟨(some 184), .iaddr none 1 (.t 169) (.t 172), [7, 10, 0, 1, 2, 3, 4, 5, 6, 7, 8, 9, 10, 20, 21, 22, 23], none⟩⟩,
   ⟨false, ⟨none, .store 1 (.t 184) (.c (.int .i64 (.ofNat 1))), [24, 23, 0, 1, 2, 3, 4, 5, 6, 7, 8, 9, 10, 20, 21, 22, 23], none⟩⟩,
   ⟨true, ⟨(some 185), .iaddr none 1 (.t 173) (.t 181), [11, 19, 0, 1, 2, 3, 4, 5, 6, 7, 8, 9, 10, 11, 12, 13, 14, 15, 16, 17, 18, 19, 20, 21, 22, 23, 24, 25], none⟩⟩,
   ⟨false, ⟨none, .store 1 (.t 185) (.c (.int .i64 (.ofNat 1))), [26, 25, 0, 1, 2, 3, 4, 5, 6, 7, 8, 9, 10, 11, 12, 13, 14, 15, 16, 17, 18, 19, 20, 21, 22, 23, 24, 25], none⟩⟩] [] 98079708769410337611322536922880456886467225196020367360)
 (.seq (.region [⟨true, ⟨(some 187), .load (some 2) (.t 3), [], none⟩⟩,
   ⟨true, ⟨(some 188), .faddr 3 (.t 5), [], none⟩⟩,
   ⟨true, ⟨(some 189), .load none (.t 188), [1], none⟩⟩,
   ⟨true, ⟨(some 190), .mov (.t 15), [], none⟩⟩,
   ⟨true, ⟨(some 191), .iaddr none 1 (.t 189) (.t 190), [2, 3], none⟩⟩,
   ⟨true, ⟨(some 192), .load none (.t 191), [4], none⟩⟩,
   ⟨true, ⟨(some 193), .call .heap (.f 13) [(.t 187), (.c (.int .i64 (.ofNat 1))), (.t 192)], [0, 5], none⟩⟩,
   ⟨true, ⟨(some 186), .mov (.t 193), [6], none⟩⟩,
   ⟨true, ⟨(some 194), .extract 0 (.t 186), [7], none⟩⟩,
   ⟨true, ⟨(some 195), .extract 1 (.t 186), [7], none⟩⟩,
   ⟨true, ⟨(some 17), .mov (.t 194), [8, 6, 0, 1, 2, 3, 4, 5, 6, 7, 8], none⟩⟩,
   ⟨true, ⟨(some 18), .mov (.t 195), [9, 10, 0, 1, 2, 3, 4, 5, 6, 7, 8, 9, 10], none⟩⟩] [] 100335548051571475334437696561585042869886087807604801667072)
 (.seq (.region [⟨true, ⟨(some 196), .faddr 3 (.t 5), [], none⟩⟩,
   ⟨true, ⟨(some 197), .load none (.t 196), [0], none⟩⟩,
   ⟨true, ⟨(some 198), .mov (.t 15), [], none⟩⟩,
   ⟨true, ⟨(some 199), .iaddr none 1 (.t 197) (.t 198), [1, 2], none⟩⟩,
   ⟨true, ⟨(some 200), .load none (.t 199), [3], none⟩⟩,
   ⟨true, ⟨(some 201), .mov (.t 16), [], none⟩⟩,
   ⟨true, ⟨(some 202), .call .heap (.f 12) [(.t 200), (.t 201)], [4, 5], none⟩⟩,
   ⟨true, ⟨(some 203), .un .not (.t 202), [6], none⟩⟩,
   ⟨true, ⟨(some 204), .mov (.t 203), [7, 6], none⟩⟩,
   ⟨false, ⟨(some 205), .mov (.t 17), [8], (some (204, false))⟩⟩,
   ⟨false, ⟨(some 206), .un .not (.t 205), [9, 8], (some (204, false))⟩⟩,
   ⟨true, ⟨(some 207), .pick (.t 204) (.c (.bool true)) (.t 206), [8, 10], none⟩⟩,
   ⟨true, ⟨(some 208), .mov (.t 207), [11, 8], none⟩⟩,
   ⟨false, ⟨(some 209), .mov (.t 18), [12], (some (208, false))⟩⟩,
   ⟨false, ⟨(some 210), .bin .neq (.t 209) (.c (.int .i64 (.ofNat 0))), [13, 12], (some (208, false))⟩⟩,
   ⟨true, ⟨(some 211), .pick (.t 208) (.c (.bool true)) (.t 210), [12, 14], none⟩⟩] [] 668385792783973767733234857783152319986578807726530394933624832)
 (.cond (.t 211)
  (.seq (.region [⟨true, ⟨(some 2), .mov (.c (.bool false)), [], none⟩⟩] [] 5913532002873084213994420499815478377281707017120677633909096489)
  .ret)
  .skip))))))
 (.region [⟨true, ⟨(some 157), .mov (.t 15), [], none⟩⟩,
   ⟨true, ⟨(some 158), .bin .add (.t 157) (.c (.int .i64 (.ofNat 1))), [0], none⟩⟩,
   ⟨false, ⟨(some 15), .mov (.t 158), [1, 0, 1], none⟩⟩] [] 3291009114642412632373052364203295336347283999873292097671921668))))))
 (.seq (.region [⟨true, ⟨(some 2), .mov (.c (.bool true)), [], none⟩⟩] [] 2622522888230672129684482134700777367316235285853517907211878441)
 .ret)))))))))))⟩
def f4 : FFn := ⟨123, [.tmp 0],
 (.seq (.region [⟨true, ⟨(some 0), .mov (.c (.bool false)), [], none⟩⟩] [] 1)
 (.seq (.region [⟨true, ⟨(some 15), .call .heap (.f 14) [(.c (.int .i64 (.ofNat 1))), (.c (.int .i64 (.ofNat 1)))], [], none⟩⟩,
   ⟨true, ⟨(some 14), .mov (.t 15), [0], none⟩⟩,
   ⟨true, ⟨(some 16), .extract 0 (.t 14), [1], none⟩⟩,
   ⟨true, ⟨(some 17), .extract 1 (.t 14), [1], none⟩⟩,
   ⟨true, ⟨(some 1), .alloc .dyn (.agg [.nilsl, .nilsl, .nilsl, .nilsl, .nilsl]), [], none⟩⟩,
   ⟨false, ⟨none, .store 5 (.t 1) (.t 16), [4, 2, 0, 0, 1, 2, 4], none⟩⟩,
   ⟨true, ⟨(some 2), .mov (.t 17), [3, 5, 0, 1, 2, 3, 4, 5], none⟩⟩] [] 245760)
 (.seq (.region [⟨true, ⟨(some 19), .call .heap (.f 15) [(.c (.int .i64 (.ofNat 1))), (.c (.int .i64 (.ofNat 1)))], [], none⟩⟩,
   ⟨true, ⟨(some 18), .mov (.t 19), [0], none⟩⟩,
   ⟨true, ⟨(some 20), .extract 0 (.t 18), [1], none⟩⟩,
   ⟨true, ⟨(some 21), .extract 1 (.t 18), [1], none⟩⟩,
   ⟨true, ⟨(some 3), .alloc .dyn (.agg [(.int .i64 (.ofNat 0)), (.int .i64 (.ofNat 0)), (.int .i64 (.ofNat 0)), (.int .i64 (.ofNat 0)), .nilsl]), [], none⟩⟩,
   ⟨false, ⟨none, .store 5 (.t 3) (.t 20), [4, 2, 0, 0, 1, 2, 4], none⟩⟩,
   ⟨true, ⟨(some 4), .mov (.t 21), [3, 5, 0, 1, 2, 3, 4, 5], none⟩⟩] [] 3932160)
 (.seq (.region [⟨true, ⟨(some 23), .call .heap (.f 14) [(.c (.int .i64 (.ofNat 3))), (.c (.int .i64 (.ofNat 2)))], [], none⟩⟩,
   ⟨true, ⟨(some 22), .mov (.t 23), [0], none⟩⟩,
   ⟨true, ⟨(some 24), .extract 0 (.t 22), [1], none⟩⟩,
   ⟨true, ⟨(some 25), .extract 1 (.t 22), [1], none⟩⟩,
   ⟨true, ⟨(some 5), .alloc .dyn (.agg [.nilsl, .nilsl, .nilsl, .nilsl, .nilsl]), [], none⟩⟩,
   ⟨false, ⟨none, .store 5 (.t 5) (.t 24), [4, 2, 0, 0, 1, 2, 4], none⟩⟩,
   ⟨true, ⟨(some 6), .mov (.t 25), [3, 5, 0, 1, 2, 3, 4, 5], none⟩⟩] [] 62914560)
 (.seq (.region [⟨true, ⟨(some 27), .call .heap (.f 6) [(.c (.int .i64 (.ofNat 3)))], [], none⟩⟩,
   ⟨true, ⟨(some 26), .mov (.t 27), [0], none⟩⟩,
   ⟨true, ⟨(some 28), .extract 0 (.t 26), [1], none⟩⟩,
   ⟨true, ⟨(some 29), .extract 1 (.t 26), [1], none⟩⟩,
   ⟨true, ⟨(some 7), .alloc .dyn (.agg [(.int .i64 (.ofNat 0)), (.int .i64 (.ofNat 0)), .nilsl, .nilsl]), [], none⟩⟩,
   ⟨false, ⟨none, .store 4 (.t 7) (.t 28), [4, 2, 0, 0, 1, 2, 4], none⟩⟩,
   ⟨true, ⟨(some 8), .mov (.t 29), [3, 5, 0, 1, 2, 3, 4, 5], none⟩⟩] [] 1006632960)
 (.seq (.region [⟨true, ⟨(some 31), .call .heap (.f 16) [(.c (.int .i64 (.ofNat 0)))], [], none⟩⟩,
   ⟨true, ⟨(some 30), .mov (.t 31), [0], none⟩⟩,
   ⟨true, ⟨(some 32), .extract 0 (.t 30), [1], none⟩⟩,
   ⟨true, ⟨(some 33), .extract 1 (.t 30), [1], none⟩⟩,
   ⟨true, ⟨(some 34), .extract 2 (.t 30), [1], none⟩⟩,
   ⟨true, ⟨(some 35), .extract 3 (.t 30), [1], none⟩⟩,
   ⟨true, ⟨(some 36), .extract 4 (.t 30), [1], none⟩⟩,
   ⟨true, ⟨(some 10), .alloc .dyn (.agg [.nilsl, (.int .i64 (.ofNat 0)), .nilsl, .nilsl]), [], none⟩⟩,
   ⟨true, ⟨(some 9), .mov (.t 32), [2, 0, 0, 1, 2, 7], none⟩⟩,
   ⟨false, ⟨none, .store 4 (.t 10) (.t 33), [7, 3, 8, 0, 1, 2, 3, 7, 8], none⟩⟩,
   ⟨true, ⟨(some 11), .mov (.t 34), [4, 9, 0, 1, 2, 3, 4, 7, 8, 9], none⟩⟩,
   ⟨true, ⟨(some 12), .mov (.t 35), [5, 10, 0, 1, 2, 3, 4, 5, 7, 8, 9, 10], none⟩⟩,
   ⟨true, ⟨(some 13), .mov (.t 36), [6, 11, 0, 1, 2, 3, 4, 5, 6, 7, 8, 9, 10, 11], none⟩⟩] [] 136365211648)
 (.seq (.region [⟨true, ⟨(some 37), .mov (.t 2), [], none⟩⟩,
   ⟨true, ⟨(some 38), .bin .eql (.t 37) (.c (.int .i64 (.ofNat 0))), [0], none⟩⟩,
   ⟨true, ⟨(some 39), .mov (.t 38), [1], none⟩⟩,
   ⟨true, ⟨(some 40), .faddr 1 (.t 1), [2], (some (39, true))⟩⟩,
   ⟨true, ⟨(some 41), .load none (.t 40), [3, 2], (some (39, true))⟩⟩,
   ⟨true, ⟨(some 42), .len 1 (.t 41), [4, 2], (some (39, true))⟩⟩,
   ⟨true, ⟨(some 43), .bin .eql (.t 42) (.c (.int .i64 (.ofNat 2))), [5, 2], (some (39, true))⟩⟩,
   ⟨true, ⟨(some 44), .pick (.t 39) (.t 43) (.c (.bool false)), [2, 6], none⟩⟩,
   ⟨true, ⟨(some 45), .mov (.t 44), [7, 2], none⟩⟩,
   ⟨true, ⟨(some 46), .faddr 2 (.t 1), [8], (some (45, true))⟩⟩,
   ⟨true, ⟨(some 47), .load none (.t 46), [9, 8], (some (45, true))⟩⟩,
   ⟨true, ⟨(some 48), .len 1 (.t 47), [10, 8], (some (45, true))⟩⟩,
   ⟨true, ⟨(some 49), .bin .eql (.t 48) (.c (.int .i64 (.ofNat 1))), [11, 8], (some (45, true))⟩⟩,
   ⟨true, ⟨(some 50), .pick (.t 45) (.t 49) (.c (.bool false)), [8, 12], none⟩⟩,
   ⟨true, ⟨(some 51), .mov (.t 50), [13, 8], none⟩⟩,
   ⟨true, ⟨(some 52), .mov (.t 4), [14], (some (51, true))⟩⟩,
   ⟨true, ⟨(some 53), .bin .eql (.t 52) (.c (.int .i64 (.ofNat 0))), [15, 14], (some (51, true))⟩⟩,
   ⟨true, ⟨(some 54), .pick (.t 51) (.t 53) (.c (.bool false)), [14, 16], none⟩⟩,
   ⟨true, ⟨(some 55), .mov (.t 54), [17, 14], none⟩⟩,
   ⟨true, ⟨(some 56), .faddr 0 (.t 3), [18], (some (55, true))⟩⟩,
   ⟨true, ⟨(some 57), .load none (.t 56), [19, 18], (some (55, true))⟩⟩,
   ⟨true, ⟨(some 58), .bin .eql (.t 57) (.c (.int .i64 (.ofNat 8))), [20, 18], (some (55, true))⟩⟩,
   ⟨true, ⟨(some 59), .pick (.t 55) (.t 58) (.c (.bool false)), [18, 21], none⟩⟩,
   ⟨true, ⟨(some 60), .mov (.t 59), [22, 18], none⟩⟩,
   ⟨true, ⟨(some 61), .faddr 2 (.t 3), [23], (some (60, true))⟩⟩,
   ⟨true, ⟨(some 62), .load none (.t 61), [24, 23], (some (60, true))⟩⟩,
   ⟨true, ⟨(some 63), .bin .eql (.t 62) (.c (.int .i64 (.ofNat 6))), [25, 23], (some (60, true))⟩⟩,
   ⟨true, ⟨(some 64), .pick (.t 60) (.t 63) (.c (.bool false)), [23, 26], none⟩⟩,
   ⟨true, ⟨(some 65), .mov (.t 64), [27, 23], none⟩⟩,
   ⟨true, ⟨(some 66), .faddr 4 (.t 3), [28], (some (65, true))⟩⟩,
   ⟨true, ⟨(some 67), .load none (.t 66), [29, 28], (some (65, true))⟩⟩,
   ⟨true, ⟨(some 68), .len 1 (.t 67), [30, 28], (some (65, true))⟩⟩,
   ⟨true, ⟨(some 69), .bin .eql (.t 68) (.c (.int .i64 (.ofNat 2))), [31, 28], (some (65, true))⟩⟩,
   ⟨true, ⟨(some 70), .pick (.t 65) (.t 69) (.c (.bool false)), [28, 32], none⟩⟩,
   ⟨true, ⟨(some 71), .mov (.t 70), [33, 28], none⟩⟩,
   ⟨true, ⟨(some 72), .mov (.t 6), [34], (some (71, true))⟩⟩,
   ⟨true, ⟨(some 73), .bin .eql (.t 72) (.c (.int .i64 (.ofNat 0))), [35, 34], (some (71, true))⟩⟩,
   ⟨true, ⟨(some 74), .pick (.t 71) (.t 73) (.c (.bool false)), [34, 36], none⟩⟩,
   ⟨true, ⟨(some 75), .mov (.t 74), [37, 34], none⟩⟩,
   ⟨true, ⟨(some 76), .faddr 1 (.t 5), [38], (some (75, true))⟩⟩,
   ⟨true, ⟨(some 77), .load none (.t 76), [39, 38], (some (75, true))⟩⟩,
   ⟨true, ⟨(some 78), .len 1 (.t 77), [40, 38], (some (75, true))⟩⟩,
   ⟨true, ⟨(some 79), .bin .eql (.t 78) (.c (.int .i64 (.ofNat 4))), [41, 38], (some (75, true))⟩⟩,
   ⟨true, ⟨(some 80), .pick (.t 75) (.t 79) (.c (.bool false)), [38, 42], none⟩⟩,
   ⟨true, ⟨(some 81), .mov (.t 80), [43, 38], none⟩⟩,
   ⟨true, ⟨(some 82), .faddr 1 (.t 5), [44], (some (81, true))⟩⟩,
   ⟨true, ⟨(some 83), .load none (.t 82), [45, 44], (some (81, true))⟩⟩,
   ⟨true, ⟨(some 84), .iaddr none 5 (.t 83) (.c (.int .i64 (.ofNat 2))), [46, 44], (some (81, true))⟩⟩,
   ⟨true, ⟨(some 85), .faddr 1 (.t 84), [47, 44], (some (81, true))⟩⟩,
   ⟨true, ⟨(some 86), .faddr 0 (.t 85), [48, 44], (some (81, true))⟩⟩,
   ⟨true, ⟨(some 87), .load none (.t 86), [49, 44], (some (81, true))⟩⟩,
   ⟨true, ⟨(some 88), .bslice false .dyn 1 4 [(.int .i64 (.ofNat 0)), (.int .i64 (.ofNat 0)), (.int .i64 (.ofNat 0)), (.int .i64 (.ofNat 0))] [(0, 1, (.c (.int .i64 (.ofNat 0)))), (1, 1, (.c (.int .i64 (.ofNat 2)))), (2, 1, (.c (.int .i64 (.ofNat 4)))), (3, 1, (.c (.int .i64 (.ofNat 5))))], [44], (some (81, true))⟩⟩,
   ⟨true, ⟨(some 89), .call .heap (.f 12) [(.t 87), (.t 88)], [50, 51, 44, 44], (some (81, true))⟩⟩,
   ⟨true, ⟨(some 90), .pick (.t 81) (.t 89) (.c (.bool false)), [44, 52], none⟩⟩,
   ⟨true, ⟨(some 91), .mov (.t 90), [53, 52], none⟩⟩,
   ⟨true, ⟨(some 92), .mov (.t 8), [54], (some (91, true))⟩⟩,
   ⟨true, ⟨(some 93), .bin .eql (.t 92) (.c (.int .i64 (.ofNat 0))), [55, 54], (some (91, true))⟩⟩,
   ⟨true, ⟨(some 94), .pick (.t 91) (.t 93) (.c (.bool false)), [54, 56], none⟩⟩,
   ⟨true, ⟨(some 95), .mov (.t 94), [57, 54], none⟩⟩,
   ⟨true, ⟨(some 96), .faddr 2 (.t 7), [58], (some (95, true))⟩⟩,
   ⟨true, ⟨(some 97), .load none (.t 96), [59, 58], (some (95, true))⟩⟩,
   ⟨true, ⟨(some 98), .bslice false .dyn 1 3 [(.int .i64 (.ofNat 0)), (.int .i64 (.ofNat 0)), (.int .i64 (.ofNat 0))] [(0, 1, (.c (.int .i64 (.ofNat 0)))), (1, 1, (.c (.int .i64 (.ofNat 3)))), (2, 1, (.c (.int .i64 (.ofNat 6))))], [58], (some (95, true))⟩⟩,
   ⟨true, ⟨(some 99), .call .heap (.f 12) [(.t 97), (.t 98)], [60, 61, 58, 58], (some (95, true))⟩⟩,
   ⟨true, ⟨(some 100), .pick (.t 95) (.t 99) (.c (.bool false)), [58, 62], none⟩⟩,
   ⟨true, ⟨(some 101), .mov (.t 100), [63, 62], none⟩⟩,
   ⟨true, ⟨(some 102), .mov (.t 13), [64], (some (101, true))⟩⟩,
   ⟨true, ⟨(some 103), .bin .eql (.t 102) (.c (.int .i64 (.ofNat 0))), [65, 64], (some (101, true))⟩⟩,
   ⟨true, ⟨(some 104), .pick (.t 101) (.t 103) (.c (.bool false)), [64, 66], none⟩⟩,
   ⟨true, ⟨(some 105), .mov (.t 104), [67, 64], none⟩⟩,
   ⟨true, ⟨(some 106), .mov (.t 9), [68], (some (105, true))⟩⟩,
   ⟨true, ⟨(some 107), .len 1 (.t 106), [69, 68], (some (105, true))⟩⟩,
   ⟨true, ⟨(some 108), .bin .eql (.t 107) (.c (.int .i64 (.ofNat 3))), [70, 68], (some (105, true))⟩⟩,
   ⟨true, ⟨(some 109), .pick (.t 105) (.t 108) (.c (.bool false)), [68, 71], none⟩⟩,
   ⟨true, ⟨(some 110), .mov (.t 109), [72, 68], none⟩⟩,
   ⟨true, ⟨(some 111), .faddr 1 (.t 10), [73], (some (110, true))⟩⟩,
   ⟨true, ⟨(some 112), .load none (.t 111), [74, 73], (some (110, true))⟩⟩,
   ⟨true, ⟨(some 113), .bin .eql (.t 112) (.c (.int .i64 (.ofNat 2))), [75, 73], (some (110, true))⟩⟩,
   ⟨true, ⟨(some 114), .pick (.t 110) (.t 113) (.c (.bool false)), [73, 76], none⟩⟩,
   ⟨true, ⟨(some 115), .mov (.t 114), [77, 73], none⟩⟩,
   ⟨true, ⟨(some 116), .mov (.t 11), [78], (some (115, true))⟩⟩,
   ⟨true, ⟨(some 117), .bin .eql (.t 116) (.c (.int .i64 (.ofNat 1))), [79, 78], (some (115, true))⟩⟩,
   ⟨true, ⟨(some 118), .pick (.t 115) (.t 117) (.c (.bool false)), [78, 80], none⟩⟩,
   ⟨true, ⟨(some 119), .mov (.t 118), [81, 78], none⟩⟩,
   ⟨true, ⟨(some 120), .mov (.t 12), [82], (some (119, true))⟩⟩,
   ⟨true, ⟨(some 121), .bin .eql (.t 120) (.c (.int .i64 (.ofNat 1))), [83, 82], (some (119, true))⟩⟩,
   ⟨true, ⟨(some 122), .pick (.t 119) (.t 121) (.c (.bool false)), [82, 84], none⟩⟩,
   ⟨true, ⟨(some 0), .mov (.t 122), [85, 82, 0, 1, 2, 3, 4, 5, 6, 7, 8, 9, 10, 11, 12, 13, 14, 15, 16, 17, 18, 19, 20, 21, 22, 23, 24, 25, 26, 27, 28, 29, 30, 31, 32, 33, 34, 35, 36, 37, 38, 39, 40, 41, 42, 43, 44, 45, 46, 47, 48, 49, 50, 51, 52, 53, 54, 55, 56, 57, 58, 59, 60, 61, 62, 63, 64, 65, 66, 67, 68, 69, 70, 71, 72, 73, 74, 75, 76, 77, 78, 79, 80, 81, 82, 83, 84, 85], none⟩⟩] [] 10633823966279326983230456344803819518)
 .ret)))))))⟩
def f5 : FFn := ⟨77, [.cell 2 (some 2), .tmp 3],
 (.seq (.region [⟨true, ⟨(some 2), .alloc .dyn (.agg [.nilsl, .nilsl]), [], none⟩⟩,
   ⟨true, ⟨(some 3), .mov (.c (.int .i64 (.ofNat 0))), [], none⟩⟩] [] 8)
 (.seq (.seq (.region [⟨true, ⟨(some 10), .mov (.t 0), [], none⟩⟩,
   ⟨true, ⟨(some 11), .bin .lss (.t 10) (.c (.int .i64 (.ofNat 2))), [0], none⟩⟩,
   ⟨true, ⟨(some 12), .mov (.t 11), [1], none⟩⟩,
   ⟨true, ⟨(some 13), .mov (.t 0), [2], (some (12, false))⟩⟩,
   ⟨true, ⟨(some 14), .bin .gtr (.t 13) (.c (.int .i64 (.ofNat 3))), [3, 2], (some (12, false))⟩⟩,
   ⟨true, ⟨(some 15), .pick (.t 12) (.c (.bool true)) (.t 14), [2, 4], none⟩⟩] [] 31744)
 (.cond (.t 15)
  (.seq (.region [⟨true, ⟨(some 16), .build [.nilsl, .nilsl] [], [], none⟩⟩,
    ⟨false, ⟨none, .store 2 (.t 2) (.t 16), [0, 0], none⟩⟩,
    ⟨true, ⟨(some 3), .mov (.c (.int .i64 (.ofNat 2))), [1, 0, 1], none⟩⟩] [] 98305)
  .ret)
  .skip))
 (.seq (.region [⟨true, ⟨(some 4), .alloc .dyn (.agg [.nilsl, .nilsl]), [], none⟩⟩] [] 32776)
 (.seq (.seq (.region [⟨true, ⟨(some 17), .mov (.t 0), [], none⟩⟩,
   ⟨true, ⟨(some 18), .mov (.c (.int .i64 (.ofNat 0))), [], none⟩⟩] [] 0)
 (.block 0 (.loop (.seq (.region [⟨true, ⟨(some 19), .bin .lss (.t 18) (.t 17), [], none⟩⟩] [] 0)
 (.seq (.cond (.t 19)
  .skip
  (.exit 0))
 (.seq (.block 1 (.seq (.region [⟨true, ⟨(some 20), .mov (.t 18), [], none⟩⟩,
   ⟨true, ⟨(some 5), .mov (.t 20), [0, 0], none⟩⟩] [] 1572864)
 (.seq (.region [⟨true, ⟨(some 21), .mov (.t 5), [], none⟩⟩,
   ⟨true, ⟨(some 22), .bin .mul (.c (.int .i64 (.ofNat 3))) (.t 21), [0], none⟩⟩,
   ⟨true, ⟨(some 23), .mov (.t 5), [], none⟩⟩,
   ⟨true, ⟨(some 24), .bin .mul (.c (.int .i64 (.ofNat 3))) (.t 23), [2], none⟩⟩,
   ⟨true, ⟨(some 25), .bin .add (.t 24) (.c (.int .i64 (.ofNat 1))), [3], none⟩⟩,
   ⟨true, ⟨(some 26), .mov (.t 5), [], none⟩⟩,
   ⟨true, ⟨(some 27), .bin .mul (.c (.int .i64 (.ofNat 3))) (.t 26), [5], none⟩⟩,
   ⟨true, ⟨(some 28), .bin .add (.t 27) (.c (.int .i64 (.ofNat 2))), [6], none⟩⟩,
   ⟨true, ⟨(some 6), .mov (.t 22), [1, 0, 1], none⟩⟩,
   ⟨true, ⟨(some 7), .mov (.t 25), [4, 8, 0, 1, 2, 3, 4, 8], none⟩⟩,
   ⟨true, ⟨(some 8), .mov (.t 28), [7, 9, 0, 1, 2, 3, 4, 5, 6, 7, 8, 9], none⟩⟩] [] 534773760)
 (.seq (.region [⟨true, ⟨(some 29), .mov (.t 5), [], none⟩⟩,
   ⟨true, ⟨(some 30), .bin .add (.t 29) (.c (.int .i64 (.ofNat 1))), [0], none⟩⟩,
   ⟨true, ⟨(some 31), .mov (.t 0), [], none⟩⟩,
   ⟨true, ⟨(some 32), .bin .rem (.t 30) (.t 31), [1, 2], none⟩⟩,
   ⟨true, ⟨(some 33), .bin .mul (.c (.int .i64 (.ofNat 3))) (.t 32), [3], none⟩⟩,
   ⟨true, ⟨(some 9), .mov (.t 33), [4, 0, 1, 2, 3, 4], none⟩⟩] [] 16642998272)
 (.seq (.region [⟨true, ⟨(some 34), .faddr 0 (.t 4), [], none⟩⟩,
   ⟨true, ⟨(some 35), .load none (.t 34), [0], none⟩⟩,
   ⟨true, ⟨(some 36), .bslice false .dyn 1 3 [(.int .i64 (.ofNat 0)), (.int .i64 (.ofNat 0)), (.int .i64 (.ofNat 0))] [(0, 1, (.c (.int .i64 (.ofNat 1)))), (1, 1, (.c (.int .i64 (.ofNat 0)))), (2, 1, (.c (.int .i64 (.ofNat 0))))], [], none⟩⟩,
   ⟨true, ⟨(some 37), .append .dyn 1 8 (.t 35) (.t 36), [1, 2], none⟩⟩,
   ⟨true, ⟨(some 38), .faddr 0 (.t 4), [0, 1, 2, 3], none⟩⟩,
   ⟨false, ⟨none, .store 1 (.t 38) (.t 37), [4, 3, 3, 0, 1, 2, 3], none⟩⟩] [] 532575944704)
 (.region [⟨true, ⟨(some 39), .faddr 1 (.t 4), [], none⟩⟩,
   ⟨true, ⟨(some 40), .load none (.t 39), [0], none⟩⟩,
   ⟨true, ⟨(some 41), .mov (.t 5), [], none⟩⟩,
   ⟨true, ⟨(some 42), .bin .mul (.c (.int .i64 (.ofNat 3))) (.t 41), [2], none⟩⟩,
   ⟨true, ⟨(some 43), .mov (.t 6), [], none⟩⟩,
   ⟨true, ⟨(some 44), .bslice false .dyn 1 1 [(.int .i64 (.ofNat 0))] [(0, 1, (.t 43))], [4], none⟩⟩,
   ⟨true, ⟨(some 45), .call .heap (.f 17) [(.t 44)], [5], none⟩⟩,
   ⟨true, ⟨(some 46), .mov (.t 7), [], none⟩⟩,
   ⟨true, ⟨(some 47), .bslice false .dyn 1 1 [(.int .i64 (.ofNat 0))] [(0, 1, (.t 46))], [7], none⟩⟩,
   ⟨true, ⟨(some 48), .call .heap (.f 17) [(.t 47)], [8, 6], none⟩⟩,
   ⟨true, ⟨(some 49), .build [(.int .i64 (.ofNat 0)), .nilsl, .nilsl] [(0, 1, (.t 42)), (1, 1, (.t 45)), (2, 1, (.t 48))], [3, 6, 9], none⟩⟩,
   ⟨true, ⟨(some 50), .mov (.t 5), [], none⟩⟩,
   ⟨true, ⟨(some 51), .bin .mul (.c (.int .i64 (.ofNat 3))) (.t 50), [11], none⟩⟩,
   ⟨true, ⟨(some 52), .bin .add (.t 51) (.c (.int .i64 (.ofNat 1))), [12], none⟩⟩,
   ⟨true, ⟨(some 53), .mov (.t 7), [], none⟩⟩,
   ⟨true, ⟨(some 54), .mov (.t 9), [], none⟩⟩,
   ⟨true, ⟨(some 55), .bslice false .dyn 1 2 [(.int .i64 (.ofNat 0)), (.int .i64 (.ofNat 0))] [(0, 1, (.t 53)), (1, 1, (.t 54))], [14, 15], none⟩⟩,
   ⟨true, ⟨(some 56), .call .heap (.f 17) [(.t 55)], [16, 9], none⟩⟩,
   ⟨true, ⟨(some 57), .mov (.t 8), [], none⟩⟩,
   ⟨true, ⟨(some 58), .bslice false .dyn 1 1 [(.int .i64 (.ofNat 0))] [(0, 1, (.t 57))], [18], none⟩⟩,
   ⟨true, ⟨(some 59), .call .heap (.f 17) [(.t 58)], [19, 17], none⟩⟩,
   ⟨true, ⟨(some 60), .build [(.int .i64 (.ofNat 0)), .nilsl, .nilsl] [(0, 1, (.t 52)), (1, 1, (.t 56)), (2, 1, (.t 59))], [13, 17, 20], none⟩⟩,
   ⟨true, ⟨(some 61), .mov (.t 5), [], none⟩⟩,
   ⟨true, ⟨(some 62), .bin .mul (.c (.int .i64 (.ofNat 3))) (.t 61), [22], none⟩⟩,
   ⟨true, ⟨(some 63), .bin .add (.t 62) (.c (.int .i64 (.ofNat 2))), [23], none⟩⟩,
   ⟨true, ⟨(some 64), .mov (.t 8), [], none⟩⟩,
   ⟨true, ⟨(some 65), .bslice false .dyn 1 1 [(.int .i64 (.ofNat 0))] [(0, 1, (.t 64))], [25], none⟩⟩,
   ⟨true, ⟨(some 66), .call .heap (.f 17) [(.t 65)], [26, 20], none⟩⟩,
   ⟨true, ⟨(some 67), .mov (.t 6), [], none⟩⟩,
   ⟨true, ⟨(some 68), .mov (.t 9), [], none⟩⟩,
   ⟨true, ⟨(some 69), .bslice false .dyn 1 2 [(.int .i64 (.ofNat 0)), (.int .i64 (.ofNat 0))] [(0, 1, (.t 67)), (1, 1, (.t 68))], [28, 29], none⟩⟩,
   ⟨true, ⟨(some 70), .call .heap (.f 17) [(.t 69)], [30, 27], none⟩⟩,
   ⟨true, ⟨(some 71), .build [(.int .i64 (.ofNat 0)), .nilsl, .nilsl] [(0, 1, (.t 63)), (1, 1, (.t 66)), (2, 1, (.t 70))], [24, 27, 31], none⟩⟩,
   ⟨true, ⟨(some 72), .bslice false .dyn 3 3 [(.int .i64 (.ofNat 0)), .nilsl, .nilsl, (.int .i64 (.ofNat 0)), .nilsl, .nilsl, (.int .i64 (.ofNat 0)), .nilsl, .nilsl] [(0, 3, (.t 49)), (3, 3, (.t 60)), (6, 3, (.t 71))], [10, 21, 32], none⟩⟩,
   ⟨true, ⟨(some 73), .append .dyn 3 56 (.t 40) (.t 72), [1, 33, 31], none⟩⟩,
   ⟨true, ⟨(some 74), .faddr 1 (.t 4), [0, 1, 2, 3, 4, 5, 6, 7, 8, 9, 10, 11, 12, 13, 14, 15, 16, 17, 18, 19, 20, 21, 22, 23, 24, 25, 26, 27, 28, 29, 30, 31, 32, 33, 34], none⟩⟩,
   ⟨false, ⟨none, .store 1 (.t 74) (.t 73), [35, 34, 34, 0, 1, 2, 3, 4, 5, 6, 7, 8, 9, 10, 11, 12, 13, 14, 15, 16, 17, 18, 19, 20, 21, 22, 23, 24, 25, 26, 27, 28, 29, 30, 31, 32, 33, 34], none⟩⟩] [(1, 5), (1, 6), (1, 8), (5, 8), (6, 8), (1, 9), (1, 16), (5, 16), (6, 16), (8, 16), (9, 16), (1, 17), (1, 19), (5, 19), (6, 19), (8, 19), (9, 19), (16, 19), (17, 19), (1, 20), (1, 26), (5, 26), (6, 26), (8, 26), (9, 26), (16, 26), (17, 26), (19, 26), (20, 26), (1, 27), (1, 30), (5, 30), (6, 30), (8, 30), (9, 30), (16, 30), (17, 30), (19, 30), (20, 30), (26, 30), (27, 30), (1, 31), (1, 33)] 37778931862407405896672))))))
 (.region [⟨true, ⟨(some 75), .bin .add (.t 18) (.c (.int .i64 (.ofNat 1))), [], none⟩⟩,
   ⟨false, ⟨(some 18), .mov (.t 75), [0], none⟩⟩] [] 37778931862957161709568)))))))
 (.seq (.region [⟨true, ⟨(some 76), .load (some 2) (.t 4), [], none⟩⟩,
   ⟨false, ⟨none, .store 2 (.t 2) (.t 76), [0, 0], none⟩⟩,
   ⟨true, ⟨(some 3), .mov (.c (.int .i64 (.ofNat 0))), [1, 0, 1], none⟩⟩] [] 75557863725914323812369)
 .ret)))))⟩
def f6 : FFn := ⟨70, [.cell 2 (some 4), .tmp 3],
 (.seq (.region [⟨true, ⟨(some 2), .alloc .dyn (.agg [(.int .i64 (.ofNat 0)), (.int .i64 (.ofNat 0)), .nilsl, .nilsl]), [], none⟩⟩,
   ⟨true, ⟨(some 3), .mov (.c (.int .i64 (.ofNat 0))), [], none⟩⟩] [] 8)
 (.seq (.seq (.region [⟨true, ⟨(some 9), .mov (.t 0), [], none⟩⟩,
   ⟨true, ⟨(some 10), .bin .lss (.t 9) (.c (.int .i64 (.ofNat 2))), [0], none⟩⟩,
   ⟨true, ⟨(some 11), .mov (.t 10), [1], none⟩⟩,
   ⟨true, ⟨(some 12), .mov (.t 0), [2], (some (11, false))⟩⟩,
   ⟨true, ⟨(some 13), .bin .gtr (.t 12) (.c (.int .i64 (.ofNat 3))), [3, 2], (some (11, false))⟩⟩,
   ⟨true, ⟨(some 14), .pick (.t 11) (.c (.bool true)) (.t 13), [2, 4], none⟩⟩] [] 15872)
 (.cond (.t 14)
  (.seq (.region [⟨true, ⟨(some 15), .build [(.int .i64 (.ofNat 0)), (.int .i64 (.ofNat 0)), .nilsl, .nilsl] [], [], none⟩⟩,
    ⟨false, ⟨none, .store 4 (.t 2) (.t 15), [0, 0], none⟩⟩,
    ⟨true, ⟨(some 3), .mov (.c (.int .i64 (.ofNat 2))), [1, 0, 1], none⟩⟩] [] 49153)
  .ret)
  .skip))
 (.seq (.region [⟨true, ⟨(some 16), .bslice false .dyn 1 2 [(.int .i64 (.ofNat 0)), (.int .i64 (.ofNat 0))] [(0, 1, (.c (.int .i64 (.ofNat 6)))), (1, 1, (.c (.int .i64 (.ofNat 14))))], [], none⟩⟩,
   ⟨true, ⟨(some 17), .mov (.t 0), [], none⟩⟩,
   ⟨true, ⟨(some 18), .bin .sub (.t 17) (.c (.int .i64 (.ofNat 2))), [1], none⟩⟩,
   ⟨true, ⟨(some 19), .iaddr none 1 (.t 16) (.t 18), [0, 2], none⟩⟩,
   ⟨true, ⟨(some 20), .load none (.t 19), [3], none⟩⟩,
   ⟨true, ⟨(some 21), .build [(.int .i64 (.ofNat 0)), (.int .i64 (.ofNat 0)), .nilsl, .nilsl] [(0, 1, (.t 20)), (1, 1, (.c (.int .i64 (.ofNat 1))))], [4], none⟩⟩,
   ⟨true, ⟨(some 4), .alloc .dyn (.agg [(.int .i64 (.ofNat 0)), (.int .i64 (.ofNat 0)), .nilsl, .nilsl]), [], none⟩⟩,
   ⟨false, ⟨none, .store 4 (.t 4) (.t 21), [6, 5, 0, 1, 2, 3, 4, 5, 6], none⟩⟩] [] 4145160)
 (.seq (.seq (.region [⟨true, ⟨(some 22), .mov (.t 0), [], none⟩⟩,
   ⟨true, ⟨(some 23), .mov (.c (.int .i64 (.ofNat 0))), [], none⟩⟩] [] 0)
 (.block 0 (.loop (.seq (.region [⟨true, ⟨(some 24), .bin .lss (.t 23) (.t 22), [], none⟩⟩] [] 0)
 (.seq (.cond (.t 24)
  .skip
  (.exit 0))
 (.seq (.block 1 (.seq (.region [⟨true, ⟨(some 25), .mov (.t 23), [], none⟩⟩,
   ⟨true, ⟨(some 5), .mov (.t 25), [0, 0], none⟩⟩] [] 50331648)
 (.seq (.region [⟨true, ⟨(some 26), .faddr 2 (.t 4), [], none⟩⟩,
   ⟨true, ⟨(some 27), .load none (.t 26), [0], none⟩⟩,
   ⟨true, ⟨(some 28), .mov (.t 5), [], none⟩⟩,
   ⟨true, ⟨(some 29), .bin .mul (.c (.int .i64 (.ofNat 3))) (.t 28), [2], none⟩⟩,
   ⟨true, ⟨(some 30), .bslice false .dyn 1 1 [(.int .i64 (.ofNat 0))] [(0, 1, (.t 29))], [3], none⟩⟩,
   ⟨true, ⟨(some 31), .append .dyn 1 8 (.t 27) (.t 30), [1, 4], none⟩⟩,
   ⟨true, ⟨(some 32), .faddr 2 (.t 4), [0, 1, 2, 3, 4, 5], none⟩⟩,
   ⟨false, ⟨none, .store 1 (.t 32) (.t 31), [6, 5, 5, 0, 1, 2, 3, 4, 5], none⟩⟩] [] 8522825728)
 (.seq (.region [⟨true, ⟨(some 33), .mov (.t 0), [], none⟩⟩,
   ⟨true, ⟨(some 34), .bin .mul (.c (.int .i64 (.ofNat 3))) (.t 33), [0], none⟩⟩,
   ⟨true, ⟨(some 35), .mkslice .dyn 1 8 [(.int .i64 (.ofNat 0))] (.t 34) (.t 34), [1, 1], none⟩⟩,
   ⟨true, ⟨(some 6), .mov (.t 35), [2, 0, 1, 2], none⟩⟩] [] 60129542144)
 (.seq (.seq (.region [⟨true, ⟨(some 36), .mov (.t 5), [], none⟩⟩,
   ⟨true, ⟨(some 37), .bin .mul (.c (.int .i64 (.ofNat 3))) (.t 36), [0], none⟩⟩,
   ⟨true, ⟨(some 38), .mov (.t 5), [], none⟩⟩,
   ⟨true, ⟨(some 39), .bin .mul (.c (.int .i64 (.ofNat 3))) (.t 38), [2], none⟩⟩,
   ⟨true, ⟨(some 40), .bin .add (.t 39) (.c (.int .i64 (.ofNat 1))), [3], none⟩⟩,
   ⟨true, ⟨(some 41), .mov (.t 5), [], none⟩⟩,
   ⟨true, ⟨(some 42), .bin .mul (.c (.int .i64 (.ofNat 3))) (.t 41), [5], none⟩⟩,
   ⟨true, ⟨(some 43), .bin .add (.t 42) (.c (.int .i64 (.ofNat 2))), [6], none⟩⟩,
   ⟨true, ⟨(some 44), .mov (.t 5), [], none⟩⟩,
   ⟨true, ⟨(some 45), .mov (.t 0), [], none⟩⟩,
   ⟨true, ⟨(some 46), .bin .add (.t 44) (.t 45), [8, 9], none⟩⟩,
   ⟨true, ⟨(some 47), .bin .sub (.t 46) (.c (.int .i64 (.ofNat 1))), [10], none⟩⟩,
   ⟨true, ⟨(some 48), .mov (.t 0), [], none⟩⟩,
   ⟨true, ⟨(some 49), .bin .rem (.t 47) (.t 48), [11, 12], none⟩⟩,
   ⟨true, ⟨(some 50), .bin .mul (.c (.int .i64 (.ofNat 3))) (.t 49), [13], none⟩⟩,
   ⟨true, ⟨(some 51), .bin .add (.t 50) (.c (.int .i64 (.ofNat 2))), [14], none⟩⟩,
   ⟨true, ⟨(some 52), .bslice false .dyn 1 4 [(.int .i64 (.ofNat 0)), (.int .i64 (.ofNat 0)), (.int .i64 (.ofNat 0)), (.int .i64 (.ofNat 0))] [(0, 1, (.t 37)), (1, 1, (.t 40)), (2, 1, (.t 43)), (3, 1, (.t 51))], [1, 4, 7, 15], none⟩⟩,
   ⟨true, ⟨(some 53), .len 1 (.t 52), [16], none⟩⟩,
   ⟨true, ⟨(some 54), .mov (.c (.int .i64 (.ofNat 0))), [], none⟩⟩] [] 4503530907893792)
 (.block 2 (.loop (.seq (.region [⟨true, ⟨(some 55), .bin .lss (.t 54) (.t 53), [], none⟩⟩] [] 0)
 (.seq (.cond (.t 55)
  .skip
  (.exit 2))
 (.seq (.block 3 (.seq (.region [⟨true, ⟨(some 56), .iaddr none 1 (.t 52) (.t 54), [], none⟩⟩,
   ⟨true, ⟨(some 57), .load none (.t 56), [0], none⟩⟩,
   ⟨true, ⟨(some 8), .mov (.t 57), [1, 0, 1], none⟩⟩] [] 252201579132747776)
 (.region [⟨true, ⟨(some 58), .mov (.t 6), [], none⟩⟩,
   ⟨true, ⟨(some 59), .mov (.t 8), [], none⟩⟩,
   ⟨true, ⟨(some 60), .iaddr none 1 (.t 58) (.t 59), [0, 1, 0, 1], none⟩⟩,
   ⟨false, ⟨none, .store 1 (.t 60) (.c (.int .i64 (.ofNat 1))), [2, 0, 1], none⟩⟩] [] 2017612633061982464)))
 (.region [⟨true, ⟨(some 61), .bin .add (.t 54) (.c (.int .i64 (.ofNat 1))), [], none⟩⟩,
   ⟨false, ⟨(some 54), .mov (.t 61), [0], none⟩⟩] [] 2305843009213693952)))))))
 (.region [⟨true, ⟨(some 62), .faddr 3 (.t 4), [], none⟩⟩,
   ⟨true, ⟨(some 63), .load none (.t 62), [0], none⟩⟩,
   ⟨true, ⟨(some 64), .mov (.t 6), [], none⟩⟩,
   ⟨true, ⟨(some 65), .bslice false .dyn 1 1 [.nilsl] [(0, 1, (.t 64))], [2], none⟩⟩,
   ⟨true, ⟨(some 66), .append .dyn 1 24 (.t 63) (.t 65), [1, 3], none⟩⟩,
   ⟨true, ⟨(some 67), .faddr 3 (.t 4), [0, 1, 2, 3, 4], none⟩⟩,
   ⟨false, ⟨none, .store 1 (.t 67) (.t 66), [5, 4, 4, 0, 1, 2, 3, 4], none⟩⟩] [] 290567744358317031488))))))
 (.region [⟨true, ⟨(some 68), .bin .add (.t 23) (.c (.int .i64 (.ofNat 1))), [], none⟩⟩,
   ⟨false, ⟨(some 23), .mov (.t 68), [0], none⟩⟩] [] 295147905179352825856)))))))
 (.seq (.region [⟨true, ⟨(some 69), .load (some 4) (.t 4), [], none⟩⟩,
   ⟨false, ⟨none, .store 4 (.t 2) (.t 69), [0, 0], none⟩⟩,
   ⟨true, ⟨(some 3), .mov (.c (.int .i64 (.ofNat 0))), [1, 0, 1], none⟩⟩] [] 590295810358718234641)
 .ret)))))⟩
def f7 : FFn := ⟨36, [.tmp 2, .tmp 3, .tmp 4],
 (.seq (.region [⟨true, ⟨(some 1), .box .dyn (.t 0), [], none⟩⟩,
   ⟨true, ⟨(some 2), .mov (.c .nilsl), [], none⟩⟩,
   ⟨true, ⟨(some 3), .mov (.c .nilsl), [1], none⟩⟩,
   ⟨true, ⟨(some 4), .mov (.c (.int .i64 (.ofNat 0))), [2], none⟩⟩] [] 21)
 (.seq (.region [⟨true, ⟨(some 9), .load (some 2) (.t 1), [], none⟩⟩,
   ⟨true, ⟨(some 10), .call .heap (.f 18) [(.t 9)], [0], none⟩⟩,
   ⟨true, ⟨(some 8), .mov (.t 10), [1], none⟩⟩,
   ⟨true, ⟨(some 11), .extract 0 (.t 8), [2], none⟩⟩,
   ⟨true, ⟨(some 12), .extract 1 (.t 8), [2], none⟩⟩,
   ⟨true, ⟨(some 5), .mov (.t 11), [3, 1, 0, 1, 2, 3], none⟩⟩,
   ⟨true, ⟨(some 4), .mov (.t 12), [4, 5, 0, 1, 2, 3, 4, 5], none⟩⟩] [] 7938)
 (.seq (.seq (.region [⟨true, ⟨(some 13), .mov (.t 4), [], none⟩⟩,
   ⟨true, ⟨(some 14), .bin .neq (.t 13) (.c (.int .i64 (.ofNat 0))), [0], none⟩⟩] [] 8192)
 (.cond (.t 14)
  (.seq (.region [⟨true, ⟨(some 15), .mov (.t 4), [], none⟩⟩,
    ⟨true, ⟨(some 2), .mov (.c .nilsl), [], none⟩⟩,
    ⟨false, ⟨(some 3), .mov (.c .nilsl), [1, 1], none⟩⟩,
    ⟨false, ⟨(some 4), .mov (.t 15), [0, 2, 0, 1, 2], none⟩⟩] [] 49184)
  .ret)
  .skip))
 (.seq (.seq (.region [⟨true, ⟨(some 16), .mov (.t 5), [], none⟩⟩,
   ⟨true, ⟨(some 17), .nilchk (.t 16), [0], none⟩⟩,
   ⟨true, ⟨(some 18), .faddr 0 (.t 17), [1], none⟩⟩,
   ⟨true, ⟨(some 19), .load none (.t 18), [2], none⟩⟩,
   ⟨true, ⟨(some 20), .len 1 (.t 19), [3], none⟩⟩,
   ⟨true, ⟨(some 21), .mov (.c (.int .i64 (.ofNat 0))), [], none⟩⟩] [] 475156)
 (.block 0 (.loop (.seq (.region [⟨true, ⟨(some 22), .bin .lss (.t 21) (.t 20), [], none⟩⟩] [] 0)
 (.seq (.cond (.t 22)
  .skip
  (.exit 0))
 (.seq (.block 1 (.seq (.region [⟨true, ⟨(some 23), .iaddr none 3 (.t 19) (.t 21), [], none⟩⟩,
   ⟨true, ⟨(some 24), .load (some 3) (.t 23), [0], none⟩⟩,
   ⟨true, ⟨(some 7), .alloc .dyn (.agg [.nilsl, (.int .i64 (.ofNat 0)), (.int .i64 (.ofNat 0))]), [], none⟩⟩,
   ⟨false, ⟨none, .store 3 (.t 7) (.t 24), [2, 1, 0, 1, 2], none⟩⟩] [] 29360128)
 (.region [⟨true, ⟨(some 25), .mov (.t 3), [], none⟩⟩,
   ⟨true, ⟨(some 26), .faddr 0 (.t 7), [], none⟩⟩,
   ⟨true, ⟨(some 27), .load none (.t 26), [1], none⟩⟩,
   ⟨true, ⟨(some 28), .bslice false .dyn 1 1 [.nilsl] [(0, 1, (.t 27))], [2], none⟩⟩,
   ⟨true, ⟨(some 29), .append .dyn 1 24 (.t 25) (.t 28), [0, 3], none⟩⟩,
   ⟨false, ⟨(some 3), .mov (.t 29), [4, 4, 0, 1, 2, 3, 4], none⟩⟩] [] 1040187520)))
 (.region [⟨true, ⟨(some 30), .bin .add (.t 21) (.c (.int .i64 (.ofNat 1))), [], none⟩⟩,
   ⟨false, ⟨(some 21), .mov (.t 30), [0], none⟩⟩] [] 1073741824)))))))
 (.seq (.region [⟨true, ⟨(some 31), .mov (.t 5), [], none⟩⟩,
   ⟨true, ⟨(some 32), .nilchk (.t 31), [0], none⟩⟩,
   ⟨true, ⟨(some 33), .faddr 1 (.t 32), [1], none⟩⟩,
   ⟨true, ⟨(some 34), .load none (.t 33), [2], none⟩⟩,
   ⟨true, ⟨(some 35), .mov (.t 3), [], none⟩⟩,
   ⟨true, ⟨(some 2), .mov (.t 34), [3, 0, 1, 2, 3], none⟩⟩,
   ⟨false, ⟨(some 3), .mov (.t 35), [4, 5, 0, 1, 2, 3, 4, 5], none⟩⟩,
   ⟨true, ⟨(some 4), .mov (.c (.int .i64 (.ofNat 0))), [6, 0, 1, 2, 3, 4, 5, 6], none⟩⟩] [] 66575663136)
 .ret)))))⟩
def f8 : FFn := ⟨39, [.tmp 2, .tmp 3],
 (.seq (.region [⟨true, ⟨(some 1), .box .dyn (.t 0), [], none⟩⟩,
   ⟨true, ⟨(some 2), .mov (.c .nilsl), [], none⟩⟩,
   ⟨true, ⟨(some 3), .mov (.c (.int .i64 (.ofNat 0))), [1], none⟩⟩] [] 13)
 (.seq (.region [⟨true, ⟨(some 10), .load (some 2) (.t 1), [], none⟩⟩,
   ⟨true, ⟨(some 11), .call .heap (.f 18) [(.t 10)], [0], none⟩⟩,
   ⟨true, ⟨(some 9), .mov (.t 11), [1], none⟩⟩,
   ⟨true, ⟨(some 12), .extract 0 (.t 9), [2], none⟩⟩,
   ⟨true, ⟨(some 13), .extract 1 (.t 9), [2], none⟩⟩,
   ⟨true, ⟨(some 4), .mov (.t 12), [3, 1, 0, 1, 2, 3], none⟩⟩,
   ⟨true, ⟨(some 5), .mov (.t 13), [4, 5, 0, 1, 2, 3, 4, 5], none⟩⟩] [] 15872)
 (.seq (.seq (.region [⟨true, ⟨(some 14), .mov (.t 5), [], none⟩⟩,
   ⟨true, ⟨(some 15), .bin .neq (.t 14) (.c (.int .i64 (.ofNat 0))), [0], none⟩⟩] [] 16384)
 (.cond (.t 15)
  (.seq (.region [⟨true, ⟨(some 16), .mov (.t 5), [], none⟩⟩,
    ⟨true, ⟨(some 2), .mov (.c .nilsl), [], none⟩⟩,
    ⟨true, ⟨(some 3), .mov (.t 16), [0, 1, 0, 1], none⟩⟩] [] 98354)
  .ret)
  .skip))
 (.seq (.region [⟨true, ⟨(some 6), .mov (.c .nilsl), [], none⟩⟩] [] 32812)
 (.seq (.seq (.region [⟨true, ⟨(some 17), .mov (.t 4), [], none⟩⟩,
   ⟨true, ⟨(some 18), .nilchk (.t 17), [0], none⟩⟩,
   ⟨true, ⟨(some 19), .faddr 0 (.t 18), [1], none⟩⟩,
   ⟨true, ⟨(some 20), .load none (.t 19), [2], none⟩⟩,
   ⟨true, ⟨(some 21), .len 1 (.t 20), [3], none⟩⟩,
   ⟨true, ⟨(some 22), .mov (.c (.int .i64 (.ofNat 0))), [], none⟩⟩] [] 917520)
 (.block 0 (.loop (.seq (.region [⟨true, ⟨(some 23), .bin .lss (.t 22) (.t 21), [], none⟩⟩] [] 0)
 (.seq (.cond (.t 23)
  .skip
  (.exit 0))
 (.seq (.block 1 (.seq (.region [⟨true, ⟨(some 24), .iaddr none 3 (.t 20) (.t 22), [], none⟩⟩,
   ⟨true, ⟨(some 25), .load (some 3) (.t 24), [0], none⟩⟩,
   ⟨true, ⟨(some 8), .alloc .dyn (.agg [.nilsl, (.int .i64 (.ofNat 0)), (.int .i64 (.ofNat 0))]), [], none⟩⟩,
   ⟨false, ⟨none, .store 3 (.t 8) (.t 25), [2, 1, 0, 1, 2], none⟩⟩] [] 58720256)
 (.seq (.region [⟨true, ⟨(some 26), .load (some 2) (.t 1), [], none⟩⟩,
   ⟨true, ⟨(some 27), .faddr 0 (.t 8), [], none⟩⟩,
   ⟨true, ⟨(some 28), .load none (.t 27), [1], none⟩⟩,
   ⟨true, ⟨(some 29), .call .heap (.f 19) [(.t 26), (.t 28)], [0, 2], none⟩⟩,
   ⟨true, ⟨(some 30), .len 1 (.t 29), [3], none⟩⟩,
   ⟨true, ⟨(some 31), .bin .eql (.t 30) (.c (.int .i64 (.ofNat 0))), [4], none⟩⟩] [] 2080374784)
 (.cond (.t 31)
  (.region [⟨true, ⟨(some 32), .mov (.t 6), [], none⟩⟩,
    ⟨true, ⟨(some 33), .faddr 0 (.t 8), [], none⟩⟩,
    ⟨true, ⟨(some 34), .load none (.t 33), [1], none⟩⟩,
    ⟨true, ⟨(some 35), .bslice false .dyn 1 1 [.nilsl] [(0, 1, (.t 34))], [2], none⟩⟩,
    ⟨true, ⟨(some 36), .append .dyn 1 24 (.t 32) (.t 35), [0, 3], none⟩⟩,
    ⟨false, ⟨(some 6), .mov (.t 36), [4, 4, 0, 1, 2, 3, 4], none⟩⟩] [] 135291470080)
  .skip))))
 (.region [⟨true, ⟨(some 37), .bin .add (.t 22) (.c (.int .i64 (.ofNat 1))), [], none⟩⟩,
   ⟨false, ⟨(some 22), .mov (.t 37), [0], none⟩⟩] [] 139586437376)))))))
 (.seq (.region [⟨true, ⟨(some 38), .mov (.t 6), [], none⟩⟩,
   ⟨true, ⟨(some 2), .mov (.t 38), [0, 0], none⟩⟩,
   ⟨true, ⟨(some 3), .mov (.c (.int .i64 (.ofNat 0))), [1, 0, 1], none⟩⟩] [] 274885247042)
 .ret))))))⟩
def f9 : FFn := ⟨36, [.tmp 2, .tmp 3, .tmp 4],
 (.seq (.region [⟨true, ⟨(some 1), .box .dyn (.t 0), [], none⟩⟩,
   ⟨true, ⟨(some 2), .mov (.c .nilsl), [], none⟩⟩,
   ⟨true, ⟨(some 3), .mov (.c (.bool false)), [1], none⟩⟩,
   ⟨true, ⟨(some 4), .mov (.c (.int .i64 (.ofNat 0))), [2], none⟩⟩] [] 29)
 (.seq (.region [⟨true, ⟨(some 9), .load (some 2) (.t 1), [], none⟩⟩,
   ⟨true, ⟨(some 10), .call .heap (.f 18) [(.t 9)], [0], none⟩⟩,
   ⟨true, ⟨(some 8), .mov (.t 10), [1], none⟩⟩,
   ⟨true, ⟨(some 11), .extract 0 (.t 8), [2], none⟩⟩,
   ⟨true, ⟨(some 12), .extract 1 (.t 8), [2], none⟩⟩,
   ⟨true, ⟨(some 5), .mov (.t 11), [3, 1, 0, 1, 2, 3], none⟩⟩,
   ⟨true, ⟨(some 4), .mov (.t 12), [4, 5, 0, 1, 2, 3, 4, 5], none⟩⟩] [] 7936)
 (.seq (.seq (.region [⟨true, ⟨(some 13), .mov (.t 4), [], none⟩⟩,
   ⟨true, ⟨(some 14), .bin .neq (.t 13) (.c (.int .i64 (.ofNat 0))), [0], none⟩⟩] [] 8192)
 (.cond (.t 14)
  (.seq (.region [⟨true, ⟨(some 15), .mov (.t 4), [], none⟩⟩,
    ⟨true, ⟨(some 2), .mov (.c .nilsl), [], none⟩⟩,
    ⟨true, ⟨(some 3), .mov (.c (.bool false)), [1, 1], none⟩⟩,
    ⟨false, ⟨(some 4), .mov (.t 15), [0, 2, 0, 1, 2], none⟩⟩] [] 49186)
  .ret)
  .skip))
 (.seq (.seq (.region [⟨true, ⟨(some 16), .mov (.t 5), [], none⟩⟩,
   ⟨true, ⟨(some 17), .nilchk (.t 16), [0], none⟩⟩,
   ⟨true, ⟨(some 18), .faddr 0 (.t 17), [1], none⟩⟩,
   ⟨true, ⟨(some 19), .load none (.t 18), [2], none⟩⟩,
   ⟨true, ⟨(some 20), .len 1 (.t 19), [3], none⟩⟩,
   ⟨true, ⟨(some 21), .mov (.c (.int .i64 (.ofNat 0))), [], none⟩⟩] [] 475164)
 (.block 0 (.loop (.seq (.region [⟨true, ⟨(some 22), .bin .lss (.t 21) (.t 20), [], none⟩⟩] [] 0)
 (.seq (.cond (.t 22)
  .skip
  (.exit 0))
 (.seq (.block 1 (.seq (.region [⟨true, ⟨(some 23), .mov (.t 21), [], none⟩⟩,
   ⟨true, ⟨(some 24), .iaddr none 3 (.t 19) (.t 21), [], none⟩⟩,
   ⟨true, ⟨(some 25), .load (some 3) (.t 24), [1], none⟩⟩,
   ⟨true, ⟨(some 7), .alloc .dyn (.agg [.nilsl, (.int .i64 (.ofNat 0)), (.int .i64 (.ofNat 0))]), [], none⟩⟩,
   ⟨true, ⟨(some 6), .mov (.t 23), [0, 0, 1, 2, 3], none⟩⟩,
   ⟨false, ⟨none, .store 3 (.t 7) (.t 25), [3, 2, 4, 0, 1, 2, 3, 4], none⟩⟩] [] 62914560)
 (.seq (.region [⟨true, ⟨(some 26), .load (some 2) (.t 1), [], none⟩⟩,
   ⟨true, ⟨(some 27), .faddr 0 (.t 7), [], none⟩⟩,
   ⟨true, ⟨(some 28), .load none (.t 27), [1], none⟩⟩,
   ⟨true, ⟨(some 29), .call .heap (.f 19) [(.t 26), (.t 28)], [0, 2], none⟩⟩,
   ⟨true, ⟨(some 30), .len 1 (.t 29), [3], none⟩⟩,
   ⟨true, ⟨(some 31), .bin .eql (.t 30) (.c (.int .i64 (.ofNat 0))), [4], none⟩⟩] [] 2080374912)
 (.cond (.t 31)
  (.seq (.region [⟨true, ⟨(some 32), .mov (.t 5), [], none⟩⟩,
    ⟨true, ⟨(some 33), .mov (.t 6), [], none⟩⟩,
    ⟨true, ⟨(some 34), .call .heap (.f 20) [(.t 32), (.t 33)], [0, 1], none⟩⟩,
    ⟨true, ⟨(some 2), .mov (.t 34), [2, 2, 0, 1, 2], none⟩⟩,
    ⟨true, ⟨(some 3), .mov (.c (.bool true)), [3, 0, 1, 2, 3], none⟩⟩,
    ⟨true, ⟨(some 4), .mov (.c (.int .i64 (.ofNat 0))), [4, 0, 1, 2, 3, 4], none⟩⟩] [] 32215924834)
  .ret)
  .skip))))
 (.region [⟨true, ⟨(some 35), .bin .add (.t 21) (.c (.int .i64 (.ofNat 1))), [], none⟩⟩,
   ⟨false, ⟨(some 21), .mov (.t 35), [0], none⟩⟩] [] 36507222108)))))))
 (.seq (.region [⟨true, ⟨(some 2), .mov (.c .nilsl), [], none⟩⟩,
   ⟨true, ⟨(some 3), .mov (.c (.bool false)), [0, 0], none⟩⟩,
   ⟨true, ⟨(some 4), .mov (.c (.int .i64 (.ofNat 0))), [1, 0, 1], none⟩⟩] [] 3670050)
 .ret)))))⟩
def f10 : FFn := ⟨17, [.tmp 4],
 (.seq (.region [⟨true, ⟨(some 2), .box .dyn (.t 0), [], none⟩⟩,
   ⟨true, ⟨(some 3), .box .dyn (.t 1), [], none⟩⟩,
   ⟨true, ⟨(some 4), .mov (.c (.bool false)), [], none⟩⟩] [] 19)
 (.seq (.region [⟨true, ⟨(some 5), .faddr 0 (.t 2), [], none⟩⟩,
   ⟨true, ⟨(some 6), .load none (.t 5), [0], none⟩⟩,
   ⟨true, ⟨(some 7), .faddr 0 (.t 3), [], none⟩⟩,
   ⟨true, ⟨(some 8), .load none (.t 7), [2], none⟩⟩,
   ⟨true, ⟨(some 9), .call .heap (.f 21) [(.t 6), (.t 8)], [1, 3], none⟩⟩,
   ⟨true, ⟨(some 10), .mov (.t 9), [4, 4], none⟩⟩,
   ⟨true, ⟨(some 11), .faddr 1 (.t 2), [5], (some (10, true))⟩⟩,
   ⟨true, ⟨(some 12), .load none (.t 11), [6, 5], (some (10, true))⟩⟩,
   ⟨true, ⟨(some 13), .faddr 1 (.t 3), [5], (some (10, true))⟩⟩,
   ⟨true, ⟨(some 14), .load none (.t 13), [8, 5], (some (10, true))⟩⟩,
   ⟨true, ⟨(some 15), .call .heap (.f 22) [(.t 12), (.t 14), (.f 23)], [7, 9, 5, 5], (some (10, true))⟩⟩,
   ⟨true, ⟨(some 16), .pick (.t 10) (.t 15) (.c (.bool false)), [5, 10], none⟩⟩,
   ⟨true, ⟨(some 4), .mov (.t 16), [11, 10, 0, 1, 2, 3, 4, 5, 6, 7, 8, 9, 10, 11], none⟩⟩] [] 131052)
 .ret))⟩
def f11 : FFn := ⟨85, [.cell 2 (some 2)],
 (.seq (.region [⟨true, ⟨(some 2), .alloc .dyn (.agg [.nilsl, .nilsl]), [], none⟩⟩] [] 0)
 (.seq (.region [⟨true, ⟨(some 3), .alloc .dyn (.agg [.nilsl, .nilsl]), [], none⟩⟩] [] 0)
 (.seq (.seq (.region [⟨true, ⟨(some 4), .mov (.c (.int .i64 (.ofNat 0))), [], none⟩⟩] [] 0)
 (.block 0 (.loop (.seq (.seq (.region [⟨true, ⟨(some 8), .mov (.t 4), [], none⟩⟩,
   ⟨true, ⟨(some 9), .mov (.t 0), [], none⟩⟩,
   ⟨true, ⟨(some 10), .bin .lss (.t 8) (.t 9), [0, 1], none⟩⟩] [] 768)
 (.cond (.t 10)
  .skip
  (.exit 0)))
 (.seq (.block 1 (.seq (.region [⟨true, ⟨(some 13), .faddr 0 (.t 3), [], none⟩⟩,
   ⟨true, ⟨(some 14), .load none (.t 13), [0], none⟩⟩,
   ⟨true, ⟨(some 15), .bslice false .dyn 1 3 [(.int .i64 (.ofNat 0)), (.int .i64 (.ofNat 0)), (.int .i64 (.ofNat 0))] [(0, 1, (.c (.int .i64 (.ofNat 1)))), (1, 1, (.c (.int .i64 (.ofNat 0)))), (2, 1, (.c (.int .i64 (.ofNat 0))))], [], none⟩⟩,
   ⟨true, ⟨(some 16), .append .dyn 1 8 (.t 14) (.t 15), [1, 2], none⟩⟩,
   ⟨true, ⟨(some 17), .faddr 0 (.t 3), [0, 1, 2, 3], none⟩⟩,
   ⟨false, ⟨none, .store 1 (.t 17) (.t 16), [4, 3, 3, 0, 1, 2, 3], none⟩⟩] [] 254976)
 (.seq (.region [⟨true, ⟨(some 18), .mov (.t 4), [], none⟩⟩,
   ⟨true, ⟨(some 19), .bin .add (.t 18) (.c (.int .i64 (.ofNat 1))), [0], none⟩⟩,
   ⟨true, ⟨(some 20), .mov (.t 0), [], none⟩⟩,
   ⟨true, ⟨(some 21), .bin .rem (.t 19) (.t 20), [1, 2], none⟩⟩,
   ⟨true, ⟨(some 22), .bin .mul (.c (.int .i64 (.ofNat 3))) (.t 21), [3], none⟩⟩,
   ⟨true, ⟨(some 5), .mov (.t 22), [4, 0, 1, 2, 3, 4], none⟩⟩] [] 8126464)
 (.seq (.region [⟨true, ⟨(some 23), .mov (.t 4), [], none⟩⟩,
   ⟨true, ⟨(some 24), .bin .mul (.c (.int .i64 (.ofNat 3))) (.t 23), [0], none⟩⟩,
   ⟨true, ⟨(some 25), .mov (.t 5), [], none⟩⟩,
   ⟨true, ⟨(some 26), .maxmin true [(.t 24), (.t 25)], [1, 2], none⟩⟩,
   ⟨true, ⟨(some 27), .build [(.int .i64 (.ofNat 0)), (.int .i64 (.ofNat 0))] [(0, 1, (.t 26)), (1, 1, (.c (.int .i64 (.ofNat 1))))], [3], none⟩⟩,
   ⟨true, ⟨(some 28), .mov (.t 4), [], none⟩⟩,
   ⟨true, ⟨(some 29), .bin .mul (.c (.int .i64 (.ofNat 3))) (.t 28), [5], none⟩⟩,
   ⟨true, ⟨(some 30), .mov (.t 5), [], none⟩⟩,
   ⟨true, ⟨(some 31), .maxmin false [(.t 29), (.t 30)], [6, 7], none⟩⟩,
   ⟨true, ⟨(some 32), .build [(.int .i64 (.ofNat 0)), (.int .i64 (.ofNat 0))] [(0, 1, (.t 31)), (1, 1, (.c (.int .i64 (.ofNat 1))))], [8], none⟩⟩,
   ⟨true, ⟨(some 33), .bslice false .dyn 2 2 [(.int .i64 (.ofNat 0)), (.int .i64 (.ofNat 0)), (.int .i64 (.ofNat 0)), (.int .i64 (.ofNat 0))] [(0, 2, (.t 27)), (2, 2, (.t 32))], [4, 9], none⟩⟩,
   ⟨true, ⟨(some 6), .mov (.t 33), [10, 0, 1, 2, 3, 4, 5, 6, 7, 8, 9, 10], none⟩⟩] [] 17171480576)
 (.seq (.region [⟨true, ⟨(some 34), .mov (.t 4), [], none⟩⟩,
   ⟨true, ⟨(some 35), .bin .mul (.c (.int .i64 (.ofNat 3))) (.t 34), [0], none⟩⟩,
   ⟨true, ⟨(some 36), .bin .add (.t 35) (.c (.int .i64 (.ofNat 1))), [1], none⟩⟩,
   ⟨true, ⟨(some 37), .mov (.t 5), [], none⟩⟩,
   ⟨true, ⟨(some 38), .maxmin true [(.t 36), (.t 37)], [2, 3], none⟩⟩,
   ⟨true, ⟨(some 39), .build [(.int .i64 (.ofNat 0)), (.int .i64 (.ofNat 0))] [(0, 1, (.t 38)), (1, 1, (.c (.int .i64 (.ofNat 1))))], [4], none⟩⟩,
   ⟨true, ⟨(some 40), .mov (.t 4), [], none⟩⟩,
   ⟨true, ⟨(some 41), .bin .mul (.c (.int .i64 (.ofNat 3))) (.t 40), [6], none⟩⟩,
   ⟨true, ⟨(some 42), .bin .add (.t 41) (.c (.int .i64 (.ofNat 1))), [7], none⟩⟩,
   ⟨true, ⟨(some 43), .mov (.t 5), [], none⟩⟩,
   ⟨true, ⟨(some 44), .maxmin false [(.t 42), (.t 43)], [8, 9], none⟩⟩,
   ⟨true, ⟨(some 45), .build [(.int .i64 (.ofNat 0)), (.int .i64 (.ofNat 0))] [(0, 1, (.t 44)), (1, 1, (.c (.int .i64 (.ofNat 1))))], [10], none⟩⟩,
   ⟨true, ⟨(some 46), .bslice false .dyn 2 2 [(.int .i64 (.ofNat 0)), (.int .i64 (.ofNat 0)), (.int .i64 (.ofNat 0)), (.int .i64 (.ofNat 0))] [(0, 2, (.t 39)), (2, 2, (.t 45))], [5, 11], none⟩⟩,
   ⟨true, ⟨(some 7), .mov (.t 46), [12, 0, 1, 2, 3, 4, 5, 6, 7, 8, 9, 10, 11, 12], none⟩⟩] [] 140720308486176)
 (.region [⟨true, ⟨(some 47), .faddr 1 (.t 3), [], none⟩⟩,
   ⟨true, ⟨(some 48), .load none (.t 47), [0], none⟩⟩,
   ⟨true, ⟨(some 49), .mov (.t 4), [], none⟩⟩,
   ⟨true, ⟨(some 50), .bin .mul (.c (.int .i64 (.ofNat 3))) (.t 49), [2], none⟩⟩,
   ⟨true, ⟨(some 51), .mov (.t 4), [], none⟩⟩,
   ⟨true, ⟨(some 52), .bin .mul (.c (.int .i64 (.ofNat 3))) (.t 51), [4], none⟩⟩,
   ⟨true, ⟨(some 53), .build [(.int .i64 (.ofNat 0)), (.int .i64 (.ofNat 0))] [(0, 1, (.t 52)), (1, 1, (.c (.int .i64 (.ofNat 1))))], [5], none⟩⟩,
   ⟨true, ⟨(some 54), .bslice false .dyn 2 1 [(.int .i64 (.ofNat 0)), (.int .i64 (.ofNat 0))] [(0, 2, (.t 53))], [6], none⟩⟩,
   ⟨true, ⟨(some 55), .mov (.t 4), [], none⟩⟩,
   ⟨true, ⟨(some 56), .bin .mul (.c (.int .i64 (.ofNat 3))) (.t 55), [8], none⟩⟩,
   ⟨true, ⟨(some 57), .bin .add (.t 56) (.c (.int .i64 (.ofNat 1))), [9], none⟩⟩,
   ⟨true, ⟨(some 58), .build [(.int .i64 (.ofNat 0)), (.int .i64 (.ofNat 0))] [(0, 1, (.t 57)), (1, 1, (.c (.int .i64 (.ofNat 1))))], [10], none⟩⟩,
   ⟨true, ⟨(some 59), .bslice false .dyn 2 1 [(.int .i64 (.ofNat 0)), (.int .i64 (.ofNat 0))] [(0, 2, (.t 58))], [11], none⟩⟩,
   ⟨true, ⟨(some 60), .build [(.int .i64 (.ofNat 0)), .nilsl, .nilsl] [(0, 1, (.t 50)), (1, 1, (.t 54)), (2, 1, (.t 59))], [3, 7, 12], none⟩⟩,
   ⟨true, ⟨(some 61), .mov (.t 4), [], none⟩⟩,
   ⟨true, ⟨(some 62), .bin .mul (.c (.int .i64 (.ofNat 3))) (.t 61), [14], none⟩⟩,
   ⟨true, ⟨(some 63), .bin .add (.t 62) (.c (.int .i64 (.ofNat 1))), [15], none⟩⟩,
   ⟨true, ⟨(some 64), .mov (.t 7), [], none⟩⟩,
   ⟨true, ⟨(some 65), .mov (.t 4), [], none⟩⟩,
   ⟨true, ⟨(some 66), .bin .mul (.c (.int .i64 (.ofNat 3))) (.t 65), [18], none⟩⟩,
   ⟨true, ⟨(some 67), .bin .add (.t 66) (.c (.int .i64 (.ofNat 2))), [19], none⟩⟩,
   ⟨true, ⟨(some 68), .build [(.int .i64 (.ofNat 0)), (.int .i64 (.ofNat 0))] [(0, 1, (.t 67)), (1, 1, (.c (.int .i64 (.ofNat 1))))], [20], none⟩⟩,
   ⟨true, ⟨(some 69), .bslice false .dyn 2 1 [(.int .i64 (.ofNat 0)), (.int .i64 (.ofNat 0))] [(0, 2, (.t 68))], [21], none⟩⟩,
   ⟨true, ⟨(some 70), .build [(.int .i64 (.ofNat 0)), .nilsl, .nilsl] [(0, 1, (.t 63)), (1, 1, (.t 64)), (2, 1, (.t 69))], [16, 17, 22], none⟩⟩,
   ⟨true, ⟨(some 71), .mov (.t 4), [], none⟩⟩,
   ⟨true, ⟨(some 72), .bin .mul (.c (.int .i64 (.ofNat 3))) (.t 71), [24], none⟩⟩,
   ⟨true, ⟨(some 73), .bin .add (.t 72) (.c (.int .i64 (.ofNat 2))), [25], none⟩⟩,
   ⟨true, ⟨(some 74), .mov (.t 4), [], none⟩⟩,
   ⟨true, ⟨(some 75), .bin .mul (.c (.int .i64 (.ofNat 3))) (.t 74), [27], none⟩⟩,
   ⟨true, ⟨(some 76), .bin .add (.t 75) (.c (.int .i64 (.ofNat 2))), [28], none⟩⟩,
   ⟨true, ⟨(some 77), .build [(.int .i64 (.ofNat 0)), (.int .i64 (.ofNat 0))] [(0, 1, (.t 76)), (1, 1, (.c (.int .i64 (.ofNat 1))))], [29], none⟩⟩,
   ⟨true, ⟨(some 78), .bslice false .dyn 2 1 [(.int .i64 (.ofNat 0)), (.int .i64 (.ofNat 0))] [(0, 2, (.t 77))], [30], none⟩⟩,
   ⟨true, ⟨(some 79), .mov (.t 6), [], none⟩⟩,
   ⟨true, ⟨(some 80), .build [(.int .i64 (.ofNat 0)), .nilsl, .nilsl] [(0, 1, (.t 73)), (1, 1, (.t 78)), (2, 1, (.t 79))], [26, 31, 32], none⟩⟩,
   ⟨true, ⟨(some 81), .bslice false .dyn 3 3 [(.int .i64 (.ofNat 0)), .nilsl, .nilsl, (.int .i64 (.ofNat 0)), .nilsl, .nilsl, (.int .i64 (.ofNat 0)), .nilsl, .nilsl] [(0, 3, (.t 60)), (3, 3, (.t 70)), (6, 3, (.t 80))], [13, 23, 33], none⟩⟩,
   ⟨true, ⟨(some 82), .append .dyn 3 56 (.t 48) (.t 81), [1, 34], none⟩⟩,
   ⟨true, ⟨(some 83), .faddr 1 (.t 3), [0, 1, 2, 3, 4, 5, 6, 7, 8, 9, 10, 11, 12, 13, 14, 15, 16, 17, 18, 19, 20, 21, 22, 23, 24, 25, 26, 27, 28, 29, 30, 31, 32, 33, 34, 35], none⟩⟩,
   ⟨false, ⟨none, .store 1 (.t 83) (.t 82), [36, 35, 35, 0, 1, 2, 3, 4, 5, 6, 7, 8, 9, 10, 11, 12, 13, 14, 15, 16, 17, 18, 19, 20, 21, 22, 23, 24, 25, 26, 27, 28, 29, 30, 31, 32, 33, 34, 35], none⟩⟩] [] 19342813113693329306943680))))))
 (.region [⟨true, ⟨(some 11), .mov (.t 4), [], none⟩⟩,
   ⟨true, ⟨(some 12), .bin .add (.t 11) (.c (.int .i64 (.ofNat 1))), [0], none⟩⟩,
   ⟨false, ⟨(some 4), .mov (.t 12), [1, 0, 1], none⟩⟩] [] 6144))))))
 (.seq (.region [⟨true, ⟨(some 84), .load (some 2) (.t 3), [], none⟩⟩,
   ⟨false, ⟨none, .store 2 (.t 2) (.t 84), [0, 0], none⟩⟩] [] 19342813113834066795298841)
 .ret))))⟩
def f12 : FFn := ⟨26, [.tmp 4],
 (.seq (.region [⟨true, ⟨(some 4), .mov (.c (.bool false)), [], none⟩⟩] [] 16)
 (.seq (.seq (.region [⟨true, ⟨(some 6), .mov (.t 0), [], none⟩⟩,
   ⟨true, ⟨(some 7), .len 1 (.t 6), [0], none⟩⟩,
   ⟨true, ⟨(some 8), .mov (.t 1), [], none⟩⟩,
   ⟨true, ⟨(some 9), .len 1 (.t 8), [2], none⟩⟩,
   ⟨true, ⟨(some 10), .bin .neq (.t 7) (.t 9), [1, 3], none⟩⟩] [] 960)
 (.cond (.t 10)
  (.seq (.region [⟨true, ⟨(some 4), .mov (.c (.bool false)), [], none⟩⟩] [] 1027)
  .ret)
  .skip))
 (.seq (.seq (.region [⟨true, ⟨(some 5), .mov (.c (.int .i64 (.ofNat 0))), [], none⟩⟩] [] 1040)
 (.block 0 (.loop (.seq (.seq (.region [⟨true, ⟨(some 11), .mov (.t 5), [], none⟩⟩,
   ⟨true, ⟨(some 12), .mov (.t 0), [], none⟩⟩,
   ⟨true, ⟨(some 13), .len 1 (.t 12), [1], none⟩⟩,
   ⟨true, ⟨(some 14), .bin .lss (.t 11) (.t 13), [0, 2], none⟩⟩] [] 14336)
 (.cond (.t 14)
  .skip
  (.exit 0)))
 (.seq (.block 1 (.seq (.region [⟨true, ⟨(some 17), .mov (.t 0), [], none⟩⟩,
   ⟨true, ⟨(some 18), .mov (.t 5), [], none⟩⟩,
   ⟨true, ⟨(some 19), .iaddr none 1 (.t 17) (.t 18), [0, 1], none⟩⟩,
   ⟨true, ⟨(some 20), .load none (.t 19), [2], none⟩⟩,
   ⟨true, ⟨(some 21), .mov (.t 1), [], none⟩⟩,
   ⟨true, ⟨(some 22), .mov (.t 5), [], none⟩⟩,
   ⟨true, ⟨(some 23), .iaddr none 1 (.t 21) (.t 22), [4, 5], none⟩⟩,
   ⟨true, ⟨(some 24), .load none (.t 23), [6], none⟩⟩,
   ⟨true, ⟨(some 25), .bin .neq (.t 20) (.t 24), [3, 7], none⟩⟩] [] 33439744)
 (.cond (.t 25)
  (.seq (.region [⟨true, ⟨(some 4), .mov (.c (.bool false)), [], none⟩⟩] [] 33554467)
  .ret)
  .skip)))
 (.region [⟨true, ⟨(some 15), .mov (.t 5), [], none⟩⟩,
   ⟨true, ⟨(some 16), .bin .add (.t 15) (.c (.int .i64 (.ofNat 1))), [0], none⟩⟩,
   ⟨false, ⟨(some 5), .mov (.t 16), [1, 0, 1], none⟩⟩] [] 33652752))))))
 (.seq (.region [⟨true, ⟨(some 4), .mov (.c (.bool true)), [], none⟩⟩] [] 35)
 .ret))))⟩
def f13 : FFn := ⟨30, [.tmp 6, .tmp 7],
 (.seq (.region [⟨true, ⟨(some 3), .box .dyn (.t 0), [], none⟩⟩,
   ⟨true, ⟨(some 6), .mov (.c (.bool false)), [], none⟩⟩,
   ⟨true, ⟨(some 7), .mov (.c (.int .i64 (.ofNat 0))), [1], none⟩⟩] [] 193)
 (.seq (.region [⟨true, ⟨(some 12), .load (some 2) (.t 3), [], none⟩⟩,
   ⟨true, ⟨(some 13), .mov (.t 1), [], none⟩⟩,
   ⟨true, ⟨(some 14), .call .heap (.f 25) [(.t 12), (.t 13)], [0, 1], none⟩⟩,
   ⟨true, ⟨(some 11), .mov (.t 14), [2], none⟩⟩,
   ⟨true, ⟨(some 15), .extract 0 (.t 11), [3], none⟩⟩,
   ⟨true, ⟨(some 16), .extract 1 (.t 11), [3], none⟩⟩,
   ⟨true, ⟨(some 8), .alloc .dyn (.agg [(.int .i64 (.ofNat 0)), .nilsl]), [], none⟩⟩,
   ⟨false, ⟨none, .store 2 (.t 8) (.t 15), [6, 4, 2, 0, 1, 2, 3, 4, 6], none⟩⟩,
   ⟨true, ⟨(some 9), .mov (.t 16), [5, 7, 0, 1, 2, 3, 4, 5, 6, 7], none⟩⟩] [] 129034)
 (.seq (.seq (.region [⟨true, ⟨(some 17), .mov (.t 9), [], none⟩⟩,
   ⟨true, ⟨(some 18), .bin .neq (.t 17) (.c (.int .i64 (.ofNat 0))), [0], none⟩⟩] [] 131072)
 (.cond (.t 18)
  (.seq (.region [⟨true, ⟨(some 19), .mov (.t 9), [], none⟩⟩,
    ⟨true, ⟨(some 6), .mov (.c (.bool false)), [], none⟩⟩,
    ⟨true, ⟨(some 7), .mov (.t 19), [0, 1, 0, 1], none⟩⟩] [] 787204)
  .ret)
  .skip))
 (.seq (.seq (.region [⟨true, ⟨(some 20), .mov (.t 2), [], none⟩⟩,
   ⟨true, ⟨(some 21), .faddr 0 (.t 8), [], none⟩⟩,
   ⟨true, ⟨(some 22), .load none (.t 21), [1], none⟩⟩,
   ⟨true, ⟨(some 23), .call .heap (.f 26) [(.t 20), (.t 22)], [0, 2], none⟩⟩,
   ⟨true, ⟨(some 10), .mov (.t 23), [3, 3, 0, 1, 2, 3], none⟩⟩] [] 15991488)
 (.seq (.region [⟨true, ⟨(some 24), .mov (.t 10), [], none⟩⟩,
   ⟨true, ⟨(some 25), .bin .neq (.t 24) (.c (.int .i64 (.ofNat 0))), [0], none⟩⟩] [] 16777216)
 (.cond (.t 25)
  (.seq (.region [⟨true, ⟨(some 26), .mov (.t 10), [], none⟩⟩,
    ⟨true, ⟨(some 6), .mov (.c (.bool false)), [], none⟩⟩,
    ⟨true, ⟨(some 7), .mov (.t 26), [0, 1, 0, 1], none⟩⟩] [] 100664580)
  .ret)
  .skip)))
 (.seq (.region [⟨true, ⟨(some 27), .load (some 2) (.t 8), [], none⟩⟩,
   ⟨true, ⟨(some 28), .mov (.t 2), [], none⟩⟩,
   ⟨true, ⟨(some 29), .call .heap (.f 27) [(.t 27), (.t 28)], [0, 1], none⟩⟩,
   ⟨false, ⟨(some 6), .mov (.t 29), [2, 2, 0, 1, 2], none⟩⟩,
   ⟨false, ⟨(some 7), .mov (.c (.int .i64 (.ofNat 0))), [3, 0, 1, 2, 3], none⟩⟩] [] 973079812)
 .ret)))))⟩
def f14 : FFn := ⟨54, [.cell 4 (some 5), .tmp 5],
 (.seq (.region [⟨true, ⟨(some 4), .alloc .dyn (.agg [.nilsl, .nilsl, .nilsl, .nilsl, .nilsl]), [], none⟩⟩,
   ⟨true, ⟨(some 5), .mov (.c (.int .i64 (.ofNat 0))), [], none⟩⟩] [] 32)
 (.seq (.seq (.region [⟨true, ⟨(some 10), .mov (.t 0), [], none⟩⟩,
   ⟨true, ⟨(some 11), .mov (.t 1), [], none⟩⟩,
   ⟨true, ⟨(some 12), .call .heap (.f 28) [(.t 10), (.t 11)], [0, 1], none⟩⟩,
   ⟨true, ⟨(some 6), .mov (.t 12), [2, 2, 0, 1, 2], none⟩⟩] [] 7168)
 (.seq (.region [⟨true, ⟨(some 13), .mov (.t 6), [], none⟩⟩,
   ⟨true, ⟨(some 14), .bin .neq (.t 13) (.c (.int .i64 (.ofNat 0))), [0], none⟩⟩] [] 8192)
 (.cond (.t 14)
  (.seq (.region [⟨true, ⟨(some 15), .build [.nilsl, .nilsl, .nilsl, .nilsl, .nilsl] [], [], none⟩⟩,
    ⟨true, ⟨(some 16), .mov (.t 6), [], none⟩⟩,
    ⟨false, ⟨none, .store 5 (.t 4) (.t 15), [0, 0], none⟩⟩,
    ⟨true, ⟨(some 5), .mov (.t 16), [1, 2, 0, 1, 2], none⟩⟩] [] 114755)
  .ret)
  .skip)))
 (.seq (.seq (.region [⟨true, ⟨(some 17), .mov (.t 0), [], none⟩⟩] [] 16481)
 (.block 0 (.seq (.region [⟨true, ⟨(some 19), .bin .eql (.t 17) (.c (.int .i64 (.ofNat 1))), [], none⟩⟩,
   ⟨true, ⟨(some 18), .mov (.t 19), [0], none⟩⟩] [] 524288)
 (.cond (.t 18)
  (.seq (.region [⟨true, ⟨(some 20), .call .heap (.f 29) [(.c (.int .i64 (.ofNat 2)))], [], none⟩⟩,
    ⟨true, ⟨(some 7), .alloc .dyn (.agg [.nilsl, .nilsl, .nilsl, .nilsl, .nilsl]), [], none⟩⟩,
    ⟨false, ⟨none, .store 5 (.t 7) (.t 20), [1, 0, 0, 0, 1], none⟩⟩] [] 1441792)
  (.seq (.region [⟨true, ⟨(some 21), .mov (.t 1), [], none⟩⟩,
    ⟨true, ⟨(some 22), .call .heap (.f 30) [(.c (.int .i64 (.ofNat 0))), (.t 21)], [0], none⟩⟩,
    ⟨true, ⟨(some 23), .bslice false .dyn 5 1 [(.str []), .nilsl, (.int .i64 (.ofNat 0)), .nilsl, .nilsl] [(0, 5, (.t 22))], [1], none⟩⟩,
    ⟨true, ⟨(some 24), .faddr 2 (.t 7), [0, 1, 2], none⟩⟩,
    ⟨false, ⟨none, .store 1 (.t 24) (.t 23), [3, 2, 1, 0, 1, 2], none⟩⟩] [] 31457282)
  (.seq (.region [⟨true, ⟨(some 25), .load (some 5) (.t 7), [], none⟩⟩,
    ⟨false, ⟨none, .store 5 (.t 4) (.t 25), [0, 0], none⟩⟩,
    ⟨true, ⟨(some 5), .mov (.c (.int .i64 (.ofNat 0))), [1, 0, 1], none⟩⟩] [] 33554560)
  .ret)))
  (.seq (.region [⟨true, ⟨(some 27), .bin .eql (.t 17) (.c (.int .i64 (.ofNat 2))), [], none⟩⟩,
    ⟨true, ⟨(some 26), .mov (.t 27), [0], none⟩⟩] [] 134479872)
  (.cond (.t 26)
   (.seq (.region [⟨true, ⟨(some 28), .mov (.t 1), [], none⟩⟩,
     ⟨true, ⟨(some 29), .call .heap (.f 29) [(.t 28)], [0], none⟩⟩,
     ⟨true, ⟨(some 8), .alloc .dyn (.agg [.nilsl, .nilsl, .nilsl, .nilsl, .nilsl]), [], none⟩⟩,
     ⟨false, ⟨none, .store 5 (.t 8) (.t 29), [2, 1, 1, 0, 1, 2], none⟩⟩] [] 872546304)
   (.seq (.seq (.region [⟨true, ⟨(some 30), .mov (.t 1), [], none⟩⟩,
     ⟨true, ⟨(some 31), .bin .sub (.t 30) (.c (.int .i64 (.ofNat 1))), [0], none⟩⟩,
     ⟨true, ⟨(some 32), .mov (.c (.int .i64 (.ofNat 0))), [], none⟩⟩] [] 1073741826)
   (.block 1 (.loop (.seq (.region [⟨true, ⟨(some 33), .bin .lss (.t 32) (.t 31), [], none⟩⟩] [] 0)
   (.seq (.cond (.t 33)
    .skip
    (.exit 1))
   (.seq (.block 2 (.seq (.region [⟨true, ⟨(some 34), .mov (.t 32), [], none⟩⟩,
     ⟨true, ⟨(some 9), .mov (.t 34), [0, 0], none⟩⟩] [] 25769803776)
   (.region [⟨true, ⟨(some 35), .faddr 2 (.t 8), [], none⟩⟩,
     ⟨true, ⟨(some 36), .load none (.t 35), [0], none⟩⟩,
     ⟨true, ⟨(some 37), .mov (.t 9), [], none⟩⟩,
     ⟨true, ⟨(some 38), .call .heap (.f 30) [(.t 37), (.c (.int .i64 (.ofNat 1)))], [2], none⟩⟩,
     ⟨true, ⟨(some 39), .bslice false .dyn 5 1 [(.str []), .nilsl, (.int .i64 (.ofNat 0)), .nilsl, .nilsl] [(0, 5, (.t 38))], [3], none⟩⟩,
     ⟨true, ⟨(some 40), .append .dyn 5 96 (.t 36) (.t 39), [1, 4, 3], none⟩⟩,
     ⟨true, ⟨(some 41), .faddr 2 (.t 8), [0, 1, 2, 3, 4, 5], none⟩⟩,
     ⟨false, ⟨none, .store 1 (.t 41) (.t 40), [6, 5, 5, 0, 1, 2, 3, 4, 5], none⟩⟩] [(1, 3), (1, 4)] 4363686773248)))
   (.region [⟨true, ⟨(some 42), .bin .add (.t 32) (.c (.int .i64 (.ofNat 1))), [], none⟩⟩,
     ⟨false, ⟨(some 32), .mov (.t 42), [0], none⟩⟩] [] 4398046511104)))))))
   (.seq (.region [⟨true, ⟨(some 43), .load (some 5) (.t 8), [], none⟩⟩,
     ⟨false, ⟨none, .store 5 (.t 4) (.t 43), [0, 0], none⟩⟩,
     ⟨true, ⟨(some 5), .mov (.c (.int .i64 (.ofNat 0))), [1, 0, 1], none⟩⟩] [] 8802535473408)
   .ret)))
   (.seq (.region [⟨true, ⟨(some 45), .bin .eql (.t 17) (.c (.int .i64 (.ofNat 3))), [], none⟩⟩,
     ⟨true, ⟨(some 44), .mov (.t 45), [0], none⟩⟩] [] 35184439197696)
   (.cond (.t 44)
    (.seq (.region [⟨true, ⟨(some 46), .mov (.t 1), [], none⟩⟩,
      ⟨true, ⟨(some 47), .call .heap (.f 31) [(.t 46)], [0], none⟩⟩,
      ⟨false, ⟨none, .store 5 (.t 4) (.t 47), [1, 1, 0, 1], none⟩⟩,
      ⟨true, ⟨(some 5), .mov (.c (.int .i64 (.ofNat 0))), [2, 0, 1, 2], none⟩⟩] [] 228698418708482)
    .ret)
    (.seq (.region [⟨true, ⟨(some 49), .bin .eql (.t 17) (.c (.int .i64 (.ofNat 4))), [], none⟩⟩,
      ⟨true, ⟨(some 48), .mov (.t 49), [0], none⟩⟩] [] 580542139596800)
    (.cond (.t 48)
     (.seq (.region [⟨true, ⟨(some 50), .mov (.t 1), [], none⟩⟩,
       ⟨true, ⟨(some 51), .call .heap (.f 32) [(.t 50)], [0], none⟩⟩,
       ⟨false, ⟨none, .store 5 (.t 4) (.t 51), [1, 1, 0, 1], none⟩⟩,
       ⟨true, ⟨(some 5), .mov (.c (.int .i64 (.ofNat 0))), [2, 0, 1, 2], none⟩⟩] [] 3659174697238530)
     .ret)
     .skip))))))))))
 (.seq (.region [⟨true, ⟨(some 52), .mov (.t 1), [], none⟩⟩,
   ⟨true, ⟨(some 53), .call .heap (.f 33) [(.t 52)], [0], none⟩⟩,
   ⟨false, ⟨none, .store 5 (.t 4) (.t 53), [1, 1, 0, 1], none⟩⟩,
   ⟨false, ⟨(some 5), .mov (.c (.int .i64 (.ofNat 0))), [2, 0, 1, 2], none⟩⟩] [] 13792273858822146)
 .ret))))⟩
def f15 : FFn := ⟨124, [.cell 4 (some 5), .tmp 5],
 (.seq (.region [⟨true, ⟨(some 4), .alloc .dyn (.agg [(.int .i64 (.ofNat 0)), (.int .i64 (.ofNat 0)), (.int .i64 (.ofNat 0)), (.int .i64 (.ofNat 0)), .nilsl]), [], none⟩⟩,
   ⟨true, ⟨(some 5), .mov (.c (.int .i64 (.ofNat 0))), [], none⟩⟩] [] 32)
 (.seq (.seq (.region [⟨true, ⟨(some 14), .mov (.t 0), [], none⟩⟩,
   ⟨true, ⟨(some 15), .mov (.t 1), [], none⟩⟩,
   ⟨true, ⟨(some 16), .call .heap (.f 28) [(.t 14), (.t 15)], [0, 1], none⟩⟩,
   ⟨true, ⟨(some 6), .mov (.t 16), [2, 2, 0, 1, 2], none⟩⟩] [] 114688)
 (.seq (.region [⟨true, ⟨(some 17), .mov (.t 6), [], none⟩⟩,
   ⟨true, ⟨(some 18), .bin .neq (.t 17) (.c (.int .i64 (.ofNat 0))), [0], none⟩⟩] [] 131072)
 (.cond (.t 18)
  (.seq (.region [⟨true, ⟨(some 19), .build [(.int .i64 (.ofNat 0)), (.int .i64 (.ofNat 0)), (.int .i64 (.ofNat 0)), (.int .i64 (.ofNat 0)), .nilsl] [], [], none⟩⟩,
    ⟨true, ⟨(some 20), .mov (.t 6), [], none⟩⟩,
    ⟨false, ⟨none, .store 5 (.t 4) (.t 19), [0, 0], none⟩⟩,
    ⟨true, ⟨(some 5), .mov (.t 20), [1, 2, 0, 1, 2], none⟩⟩] [] 1835075)
  .ret)
  .skip)))
 (.seq (.region [⟨true, ⟨(some 21), .mov (.t 1), [], none⟩⟩,
   ⟨true, ⟨(some 7), .mov (.t 21), [0, 0], none⟩⟩] [] 2359394)
 (.seq (.seq (.region [⟨true, ⟨(some 22), .mov (.t 0), [], none⟩⟩] [] 1)
 (.block 0 (.seq (.region [⟨true, ⟨(some 24), .bin .eql (.t 22) (.c (.int .i64 (.ofNat 1))), [], none⟩⟩,
   ⟨true, ⟨(some 23), .mov (.t 24), [0], none⟩⟩] [] 16777216)
 (.cond (.t 23)
  (.seq (.region [⟨true, ⟨(some 25), .build [.nilsl, (.int .i64 (.ofNat 0))] [(1, 1, (.c (.int .i64 (.ofNat 0))))], [], none⟩⟩,
    ⟨true, ⟨(some 8), .alloc .dyn (.agg [.nilsl, (.int .i64 (.ofNat 0))]), [], none⟩⟩,
    ⟨false, ⟨none, .store 2 (.t 8) (.t 25), [1, 0, 0, 1], none⟩⟩] [] 46137344)
  (.seq (.seq (.region [⟨true, ⟨(some 26), .mov (.t 7), [], none⟩⟩,
    ⟨true, ⟨(some 27), .mov (.c (.int .i64 (.ofNat 0))), [], none⟩⟩] [] 0)
  (.block 1 (.loop (.seq (.region [⟨true, ⟨(some 28), .bin .lss (.t 27) (.t 26), [], none⟩⟩] [] 0)
  (.seq (.cond (.t 28)
   .skip
   (.exit 1))
  (.seq (.block 2 (.region [⟨true, ⟨(some 29), .faddr 0 (.t 8), [], none⟩⟩,
    ⟨true, ⟨(some 30), .load none (.t 29), [0], none⟩⟩,
    ⟨true, ⟨(some 31), .bslice false .dyn 1 2 [(.int .i64 (.ofNat 0)), (.int .i64 (.ofNat 0))] [(0, 1, (.c (.int .i64 (.ofNat 0)))), (1, 1, (.c (.int .i64 (.ofNat 1))))], [], none⟩⟩,
    ⟨true, ⟨(some 32), .append .dyn 1 8 (.t 30) (.t 31), [1, 2], none⟩⟩,
    ⟨true, ⟨(some 33), .faddr 0 (.t 8), [0, 1, 2, 3], none⟩⟩,
    ⟨false, ⟨none, .store 1 (.t 33) (.t 32), [4, 3, 3, 0, 1, 2, 3], none⟩⟩] [] 16911433728))
  (.region [⟨true, ⟨(some 34), .bin .add (.t 27) (.c (.int .i64 (.ofNat 1))), [], none⟩⟩,
    ⟨false, ⟨(some 27), .mov (.t 34), [0], none⟩⟩] [] 17179869184)))))))
  (.seq (.region [⟨true, ⟨(some 35), .mov (.t 7), [], none⟩⟩,
    ⟨true, ⟨(some 36), .bin .add (.t 35) (.c (.int .i64 (.ofNat 1))), [0], none⟩⟩,
    ⟨true, ⟨(some 37), .bin .mul (.c (.int .i64 (.ofNat 4))) (.t 36), [1], none⟩⟩,
    ⟨true, ⟨(some 38), .mov (.t 7), [], none⟩⟩,
    ⟨true, ⟨(some 39), .bin .mul (.c (.int .i64 (.ofNat 4))) (.t 38), [3], none⟩⟩,
    ⟨true, ⟨(some 40), .bin .add (.t 39) (.c (.int .i64 (.ofNat 2))), [4], none⟩⟩,
    ⟨true, ⟨(some 41), .build [.nilsl, (.int .i64 (.ofNat 0))] [(1, 1, (.c (.int .i64 (.ofNat 2))))], [], none⟩⟩,
    ⟨true, ⟨(some 42), .load (some 2) (.t 8), [], none⟩⟩,
    ⟨true, ⟨(some 43), .bslice false .dyn 2 2 [.nilsl, (.int .i64 (.ofNat 0)), .nilsl, (.int .i64 (.ofNat 0))] [(0, 2, (.t 41)), (2, 2, (.t 42))], [6, 7], none⟩⟩,
    ⟨true, ⟨(some 44), .call .heap (.f 34) [(.t 37), (.t 40), (.c (.int .i64 (.ofNat 2))), (.t 43)], [2, 5, 8], none⟩⟩,
    ⟨false, ⟨none, .store 5 (.t 4) (.t 44), [9, 9, 0, 1, 2, 3, 4, 5, 6, 7, 8, 9], none⟩⟩,
    ⟨true, ⟨(some 5), .mov (.c (.int .i64 (.ofNat 0))), [10, 0, 1, 2, 3, 4, 5, 6, 7, 8, 9, 10], none⟩⟩] [] 35150213677440)
  .ret)))
  (.seq (.region [⟨true, ⟨(some 46), .bin .eql (.t 22) (.c (.int .i64 (.ofNat 2))), [], none⟩⟩,
    ⟨true, ⟨(some 45), .mov (.t 46), [0], none⟩⟩] [] 70368752566272)
  (.cond (.t 45)
   (.seq (.region [⟨true, ⟨(some 47), .mov (.t 7), [], none⟩⟩,
     ⟨true, ⟨(some 48), .bin .mul (.c (.int .i64 (.ofNat 2))) (.t 47), [0], none⟩⟩,
     ⟨true, ⟨(some 49), .bin .sub (.t 48) (.c (.int .i64 (.ofNat 1))), [1], none⟩⟩,
     ⟨true, ⟨(some 50), .call .heap (.f 35) [(.c (.int .i64 (.ofNat 2))), (.t 49)], [2], none⟩⟩,
     ⟨true, ⟨(some 51), .mov (.t 7), [], none⟩⟩,
     ⟨true, ⟨(some 52), .bin .sub (.t 51) (.c (.int .i64 (.ofNat 1))), [4], none⟩⟩,
     ⟨true, ⟨(some 53), .call .heap (.f 35) [(.c (.int .i64 (.ofNat 3))), (.t 52)], [5, 3], none⟩⟩,
     ⟨true, ⟨(some 54), .bin .mul (.c (.int .i64 (.ofNat 2))) (.t 53), [6], none⟩⟩,
     ⟨true, ⟨(some 9), .mov (.t 50), [3, 6, 0, 1, 2, 3], none⟩⟩,
     ⟨true, ⟨(some 10), .mov (.t 54), [7, 8, 0, 1, 2, 3, 4, 5, 6, 7, 8], none⟩⟩] [] 35923243906891776)
   (.seq (.region [⟨true, ⟨(some 55), .mov (.t 9), [], none⟩⟩,
     ⟨true, ⟨(some 56), .mov (.t 10), [], none⟩⟩,
     ⟨true, ⟨(some 57), .mov (.t 9), [], none⟩⟩,
     ⟨true, ⟨(some 58), .mov (.t 10), [], none⟩⟩,
     ⟨true, ⟨(some 59), .bin .sub (.t 57) (.t 58), [2, 3], none⟩⟩,
     ⟨true, ⟨(some 60), .mov (.t 7), [], none⟩⟩,
     ⟨true, ⟨(some 61), .bin .mul (.c (.int .i64 (.ofNat 2))) (.t 60), [5], none⟩⟩,
     ⟨true, ⟨(some 62), .bin .sub (.t 61) (.c (.int .i64 (.ofNat 2))), [6], none⟩⟩,
     ⟨true, ⟨(some 63), .build [.nilsl, (.int .i64 (.ofNat 0))] [(1, 1, (.t 62))], [7], none⟩⟩,
     ⟨true, ⟨(some 64), .bslice false .dyn 1 2 [(.int .i64 (.ofNat 0)), (.int .i64 (.ofNat 0))] [(0, 1, (.c (.int .i64 (.ofNat 0)))), (1, 1, (.c (.int .i64 (.ofNat 1))))], [], none⟩⟩,
     ⟨true, ⟨(some 65), .build [.nilsl, (.int .i64 (.ofNat 0))] [(0, 1, (.t 64)), (1, 1, (.c (.int .i64 (.ofNat 0))))], [9], none⟩⟩,
     ⟨true, ⟨(some 66), .bslice false .dyn 2 2 [.nilsl, (.int .i64 (.ofNat 0)), .nilsl, (.int .i64 (.ofNat 0))] [(0, 2, (.t 63)), (2, 2, (.t 65))], [8, 10], none⟩⟩,
     ⟨true, ⟨(some 67), .call .heap (.f 34) [(.t 55), (.t 56), (.t 59), (.t 66)], [0, 1, 4, 11], none⟩⟩,
     ⟨false, ⟨none, .store 5 (.t 4) (.t 67), [12, 12, 0, 1, 2, 3, 4, 5, 6, 7, 8, 9, 10, 11, 12], none⟩⟩,
     ⟨true, ⟨(some 5), .mov (.c (.int .i64 (.ofNat 0))), [13, 0, 1, 2, 3, 4, 5, 6, 7, 8, 9, 10, 11, 12, 13], none⟩⟩] [] 295111876382333863552)
   .ret))
   (.seq (.region [⟨true, ⟨(some 69), .bin .eql (.t 22) (.c (.int .i64 (.ofNat 3))), [], none⟩⟩,
     ⟨true, ⟨(some 68), .mov (.t 69), [0], none⟩⟩] [] 590295845543077740544)
   (.cond (.t 68)
    (.seq (.region [⟨true, ⟨(some 70), .bslice false .dyn 1 3 [(.int .i64 (.ofNat 0)), (.int .i64 (.ofNat 0)), (.int .i64 (.ofNat 0))] [(0, 1, (.c (.int .i64 (.ofNat 6)))), (1, 1, (.c (.int .i64 (.ofNat 14)))), (2, 1, (.c (.int .i64 (.ofNat 34))))], [], none⟩⟩,
      ⟨true, ⟨(some 71), .mov (.t 7), [], none⟩⟩,
      ⟨true, ⟨(some 72), .bin .sub (.t 71) (.c (.int .i64 (.ofNat 2))), [1], none⟩⟩,
      ⟨true, ⟨(some 73), .iaddr none 1 (.t 70) (.t 72), [0, 2], none⟩⟩,
      ⟨true, ⟨(some 74), .load none (.t 73), [3], none⟩⟩,
      ⟨true, ⟨(some 11), .mov (.t 74), [4, 0, 1, 2, 3, 4], none⟩⟩] [] 36893488147419107426304)
    (.seq (.region [⟨true, ⟨(some 75), .mov (.t 7), [], none⟩⟩,
      ⟨true, ⟨(some 76), .bin .sub (.t 75) (.c (.int .i64 (.ofNat 1))), [0], none⟩⟩,
      ⟨true, ⟨(some 77), .bin .mul (.c (.int .i64 (.ofNat 3))) (.t 76), [1], none⟩⟩,
      ⟨true, ⟨(some 78), .build [.nilsl, (.int .i64 (.ofNat 0))] [(1, 1, (.t 77))], [2], none⟩⟩,
      ⟨true, ⟨(some 12), .alloc .dyn (.agg [.nilsl, (.int .i64 (.ofNat 0))]), [], none⟩⟩,
      ⟨false, ⟨none, .store 2 (.t 12) (.t 78), [4, 3, 0, 1, 2, 3, 4], none⟩⟩] [] 566683977944357425643520)
    (.seq (.seq (.region [⟨true, ⟨(some 79), .mov (.t 7), [], none⟩⟩,
      ⟨true, ⟨(some 80), .bin .sub (.t 79) (.c (.int .i64 (.ofNat 1))), [0], none⟩⟩,
      ⟨true, ⟨(some 81), .mov (.c (.int .i64 (.ofNat 0))), [], none⟩⟩] [] 604462909807314587353216)
    (.block 3 (.loop (.seq (.region [⟨true, ⟨(some 82), .bin .lss (.t 81) (.t 80), [], none⟩⟩] [] 0)
    (.seq (.cond (.t 82)
     .skip
     (.exit 3))
    (.seq (.block 4 (.seq (.region [⟨true, ⟨(some 83), .mov (.t 81), [], none⟩⟩,
      ⟨true, ⟨(some 13), .mov (.t 83), [0, 0], none⟩⟩] [] 14507109835375550096474112)
    (.region [⟨true, ⟨(some 84), .faddr 0 (.t 12), [], none⟩⟩,
      ⟨true, ⟨(some 85), .load none (.t 84), [0], none⟩⟩,
      ⟨true, ⟨(some 86), .mov (.t 13), [], none⟩⟩,
      ⟨true, ⟨(some 87), .bin .mul (.c (.int .i64 (.ofNat 3))) (.t 86), [2], none⟩⟩,
      ⟨true, ⟨(some 88), .bslice false .dyn 1 1 [(.int .i64 (.ofNat 0))] [(0, 1, (.t 87))], [3], none⟩⟩,
      ⟨true, ⟨(some 89), .append .dyn 1 8 (.t 85) (.t 88), [1, 4], none⟩⟩,
      ⟨true, ⟨(some 90), .faddr 0 (.t 12), [0, 1, 2, 3, 4, 5], none⟩⟩,
      ⟨false, ⟨none, .store 1 (.t 90) (.t 89), [6, 5, 5, 0, 1, 2, 3, 4, 5], none⟩⟩] [] 2456537265456926483002957824)))
    (.region [⟨true, ⟨(some 91), .bin .add (.t 81) (.c (.int .i64 (.ofNat 1))), [], none⟩⟩,
      ⟨false, ⟨(some 81), .mov (.t 91), [0], none⟩⟩] [] 2475880078570760549798248448)))))))
    (.seq (.region [⟨true, ⟨(some 92), .mov (.t 11), [], none⟩⟩,
      ⟨true, ⟨(some 93), .mov (.t 11), [], none⟩⟩,
      ⟨true, ⟨(some 94), .bin .sub (.t 93) (.c (.int .i64 (.ofNat 1))), [1], none⟩⟩,
      ⟨true, ⟨(some 95), .load (some 2) (.t 12), [], none⟩⟩,
      ⟨true, ⟨(some 96), .bslice false .dyn 2 1 [.nilsl, (.int .i64 (.ofNat 0))] [(0, 2, (.t 95))], [3], none⟩⟩,
      ⟨true, ⟨(some 97), .call .heap (.f 34) [(.t 92), (.t 94), (.c (.int .i64 (.ofNat 0))), (.t 96)], [0, 2, 4], none⟩⟩,
      ⟨false, ⟨none, .store 5 (.t 4) (.t 97), [5, 5, 0, 1, 2, 3, 4, 5], none⟩⟩,
      ⟨true, ⟨(some 5), .mov (.c (.int .i64 (.ofNat 0))), [6, 0, 1, 2, 3, 4, 5, 6], none⟩⟩] [] 311964516677374673162103429120)
    .ret))))
    (.seq (.region [⟨true, ⟨(some 99), .bin .eql (.t 22) (.c (.int .i64 (.ofNat 4))), [], none⟩⟩,
      ⟨true, ⟨(some 98), .mov (.t 99), [0], none⟩⟩] [] 633825300409262605927708622848)
    (.cond (.t 98)
     (.seq (.region [⟨true, ⟨(some 100), .mov (.t 7), [], none⟩⟩,
       ⟨true, ⟨(some 101), .call .heap (.f 35) [(.c (.int .i64 (.ofNat 2))), (.t 100)], [0], none⟩⟩,
       ⟨true, ⟨(some 102), .mov (.t 7), [], none⟩⟩,
       ⟨true, ⟨(some 103), .bin .add (.t 102) (.c (.int .i64 (.ofNat 1))), [2], none⟩⟩,
       ⟨true, ⟨(some 104), .mov (.t 7), [], none⟩⟩,
       ⟨true, ⟨(some 105), .call .heap (.f 35) [(.c (.int .i64 (.ofNat 2))), (.t 104)], [4, 1], none⟩⟩,
       ⟨true, ⟨(some 106), .mov (.t 7), [], none⟩⟩,
       ⟨true, ⟨(some 107), .bin .sub (.t 105) (.t 106), [5, 6], none⟩⟩,
       ⟨true, ⟨(some 108), .bin .sub (.t 107) (.c (.int .i64 (.ofNat 1))), [7], none⟩⟩,
       ⟨true, ⟨(some 109), .bslice false .dyn 1 1 [(.int .i64 (.ofNat 0))] [(0, 1, (.c (.int .i64 (.ofNat 0))))], [], none⟩⟩,
       ⟨true, ⟨(some 110), .build [.nilsl, (.int .i64 (.ofNat 0))] [(0, 1, (.t 109)), (1, 1, (.c (.int .i64 (.ofNat 2))))], [9], none⟩⟩,
       ⟨true, ⟨(some 111), .bslice false .dyn 2 1 [.nilsl, (.int .i64 (.ofNat 0))] [(0, 2, (.t 110))], [10], none⟩⟩,
       ⟨true, ⟨(some 112), .call .heap (.f 34) [(.t 101), (.t 103), (.t 108), (.t 111)], [1, 3, 8, 11, 5], none⟩⟩,
       ⟨false, ⟨none, .store 5 (.t 4) (.t 112), [12, 12, 0, 1, 2, 3, 4, 5, 6, 7, 8, 9, 10, 11, 12], none⟩⟩,
       ⟨true, ⟨(some 5), .mov (.c (.int .i64 (.ofNat 0))), [13, 0, 1, 2, 3, 4, 5, 6, 7, 8, 9, 10, 11, 12, 13], none⟩⟩] [] 10383642979119484085009870131036288)
     .ret)
     .skip))))))))))
 (.seq (.region [⟨true, ⟨(some 113), .mov (.t 7), [], none⟩⟩,
   ⟨true, ⟨(some 114), .mov (.t 7), [], none⟩⟩,
   ⟨true, ⟨(some 115), .call .heap (.f 35) [(.c (.int .i64 (.ofNat 2))), (.t 114)], [1], none⟩⟩,
   ⟨true, ⟨(some 116), .bin .mul (.t 113) (.t 115), [0, 2], none⟩⟩,
   ⟨true, ⟨(some 117), .mov (.t 7), [], none⟩⟩,
   ⟨true, ⟨(some 118), .mov (.t 7), [], none⟩⟩,
   ⟨true, ⟨(some 119), .call .heap (.f 35) [(.c (.int .i64 (.ofNat 2))), (.t 118)], [5, 2], none⟩⟩,
   ⟨true, ⟨(some 120), .bin .mul (.t 117) (.t 119), [4, 6], none⟩⟩,
   ⟨true, ⟨(some 121), .build [.nilsl, (.int .i64 (.ofNat 0))] [(1, 1, (.c (.int .i64 (.ofNat 2))))], [], none⟩⟩,
   ⟨true, ⟨(some 122), .bslice false .dyn 2 1 [.nilsl, (.int .i64 (.ofNat 0))] [(0, 2, (.t 121))], [8], none⟩⟩,
   ⟨true, ⟨(some 123), .call .heap (.f 34) [(.t 116), (.t 120), (.c (.int .i64 (.ofNat 0))), (.t 122)], [3, 7, 9, 6], none⟩⟩,
   ⟨false, ⟨none, .store 5 (.t 4) (.t 123), [10, 10, 0, 1, 2, 3, 4, 5, 6, 7, 8, 9, 10], none⟩⟩,
   ⟨false, ⟨(some 5), .mov (.c (.int .i64 (.ofNat 0))), [11, 0, 1, 2, 3, 4, 5, 6, 7, 8, 9, 10, 11], none⟩⟩] [] 21257263655754234368261202346002874496)
 .ret)))))⟩
def f16 : FFn := ⟨68, [.tmp 2, .cell 3 (some 4), .tmp 4, .tmp 5, .tmp 6],
 (.seq (.region [⟨true, ⟨(some 2), .mov (.c .nilsl), [], none⟩⟩,
   ⟨true, ⟨(some 3), .alloc .dyn (.agg [.nilsl, (.int .i64 (.ofNat 0)), .nilsl, .nilsl]), [], none⟩⟩,
   ⟨true, ⟨(some 4), .mov (.c (.int .i64 (.ofNat 0))), [0], none⟩⟩,
   ⟨true, ⟨(some 5), .mov (.c (.int .i64 (.ofNat 0))), [2], none⟩⟩,
   ⟨true, ⟨(some 6), .mov (.c (.int .i64 (.ofNat 0))), [3], none⟩⟩] [] 116)
 (.seq (.seq (.region [⟨true, ⟨(some 9), .mov (.t 0), [], none⟩⟩,
   ⟨true, ⟨(some 10), .bin .lss (.t 9) (.c (.int .i64 (.ofNat 0))), [0], none⟩⟩,
   ⟨true, ⟨(some 11), .mov (.t 10), [1], none⟩⟩,
   ⟨true, ⟨(some 12), .mov (.t 0), [2], (some (11, false))⟩⟩,
   ⟨true, ⟨(some 13), .bin .gtr (.t 12) (.c (.int .i64 (.ofNat 16))), [3, 2], (some (11, false))⟩⟩,
   ⟨true, ⟨(some 14), .pick (.t 11) (.c (.bool true)) (.t 13), [2, 4], none⟩⟩] [] 15872)
 (.cond (.t 14)
  (.seq (.region [⟨true, ⟨(some 15), .load (some 4) (.t 3), [], none⟩⟩,
    ⟨true, ⟨(some 2), .mov (.c .nilsl), [], none⟩⟩,
    ⟨false, ⟨none, .store 4 (.t 3) (.t 15), [0, 1, 0, 1], none⟩⟩,
    ⟨true, ⟨(some 4), .mov (.c (.int .i64 (.ofNat 0))), [2, 0, 1, 2], none⟩⟩,
    ⟨true, ⟨(some 5), .mov (.c (.int .i64 (.ofNat 0))), [3, 0, 1, 2, 3], none⟩⟩,
    ⟨true, ⟨(some 6), .mov (.c (.int .i64 (.ofNat 2))), [4, 0, 1, 2, 3, 4], none⟩⟩] [] 49153)
  .ret)
  .skip))
 (.seq (.region [⟨true, ⟨(some 16), .build [(.str []), (.bool false), (.bool false), (.bool false), (.int .i64 (.ofNat 0))] [(0, 1, (.c (.str [97]))), (2, 1, (.c (.bool true)))], [], none⟩⟩,
   ⟨true, ⟨(some 17), .build [(.str []), (.bool false), (.bool false), (.bool false), (.int .i64 (.ofNat 0))] [(0, 1, (.c (.str [102]))), (4, 1, (.c (.int .i64 (.ofNat 1))))], [], none⟩⟩,
   ⟨true, ⟨(some 18), .build [(.str []), (.bool false), (.bool false), (.bool false), (.int .i64 (.ofNat 0))] [(0, 1, (.c (.str [98]))), (2, 1, (.c (.bool true)))], [], none⟩⟩,
   ⟨true, ⟨(some 19), .bslice false .dyn 5 3 [(.str []), (.bool false), (.bool false), (.bool false), (.int .i64 (.ofNat 0)), (.str []), (.bool false), (.bool false), (.bool false), (.int .i64 (.ofNat 0)), (.str []), (.bool false), (.bool false), (.bool false), (.int .i64 (.ofNat 0))] [(0, 5, (.t 16)), (5, 5, (.t 17)), (10, 5, (.t 18))], [0, 1, 2], none⟩⟩,
   ⟨false, ⟨(some 2), .mov (.t 19), [3, 0, 1, 2, 3], none⟩⟩] [] 999536)
 (.seq (.region [⟨true, ⟨(some 20), .bslice false .dyn 1 3 [(.int .i64 (.ofNat 0)), (.int .i64 (.ofNat 0)), (.int .i64 (.ofNat 0))] [(0, 1, (.c (.int .i64 (.ofNat 0)))), (1, 1, (.c (.int .i64 (.ofNat 1)))), (2, 1, (.c (.int .i64 (.ofNat 2))))], [], none⟩⟩,
   ⟨true, ⟨(some 21), .mov (.t 0), [], none⟩⟩,
   ⟨true, ⟨(some 22), .bin .add (.t 21) (.c (.int .i64 (.ofNat 2))), [1], none⟩⟩,
   ⟨true, ⟨(some 23), .build [(.int .i64 (.ofNat 0)), (.int .i64 (.ofNat 0)), (.int .i64 (.ofNat 0))] [(0, 1, (.c (.int .i64 (.ofNat 0)))), (1, 1, (.c (.int .i64 (.ofNat 0)))), (2, 1, (.c (.int .i64 (.ofNat 0))))], [], none⟩⟩,
   ⟨true, ⟨(some 24), .build [(.int .i64 (.ofNat 0)), (.int .i64 (.ofNat 0)), (.int .i64 (.ofNat 0))] [(0, 1, (.c (.int .i64 (.ofNat 0)))), (1, 1, (.c (.int .i64 (.ofNat 1)))), (2, 1, (.c (.int .i64 (.ofNat 1))))], [], none⟩⟩,
   ⟨true, ⟨(some 25), .bslice false .dyn 3 2 [(.int .i64 (.ofNat 0)), (.int .i64 (.ofNat 0)), (.int .i64 (.ofNat 0)), (.int .i64 (.ofNat 0)), (.int .i64 (.ofNat 0)), (.int .i64 (.ofNat 0))] [(0, 3, (.t 23)), (3, 3, (.t 24))], [3, 4], none⟩⟩,
   ⟨true, ⟨(some 26), .build [.nilsl, (.int .i64 (.ofNat 0)), .nilsl, .nilsl] [(0, 1, (.t 20)), (1, 1, (.t 22)), (3, 1, (.t 25))], [0, 2, 5], none⟩⟩,
   ⟨false, ⟨none, .store 4 (.t 3) (.t 26), [6, 0, 1, 2, 3, 4, 5, 6], none⟩⟩] [] 133169152)
 (.seq (.seq (.region [⟨true, ⟨(some 27), .mov (.t 0), [], none⟩⟩,
   ⟨true, ⟨(some 28), .mov (.c (.int .i64 (.ofNat 0))), [], none⟩⟩] [] 0)
 (.block 0 (.loop (.seq (.region [⟨true, ⟨(some 29), .bin .lss (.t 28) (.t 27), [], none⟩⟩] [] 0)
 (.seq (.cond (.t 29)
  .skip
  (.exit 0))
 (.seq (.block 1 (.seq (.region [⟨true, ⟨(some 30), .mov (.t 28), [], none⟩⟩,
   ⟨true, ⟨(some 7), .mov (.t 30), [0, 0], none⟩⟩] [] 1610612736)
 (.region [⟨true, ⟨(some 31), .faddr 3 (.t 3), [], none⟩⟩,
   ⟨true, ⟨(some 32), .load none (.t 31), [0], none⟩⟩,
   ⟨true, ⟨(some 33), .mov (.t 7), [], none⟩⟩,
   ⟨true, ⟨(some 34), .bin .add (.c (.int .i64 (.ofNat 1))) (.t 33), [2], none⟩⟩,
   ⟨true, ⟨(some 35), .mov (.t 7), [], none⟩⟩,
   ⟨true, ⟨(some 36), .bin .add (.c (.int .i64 (.ofNat 2))) (.t 35), [4], none⟩⟩,
   ⟨true, ⟨(some 37), .build [(.int .i64 (.ofNat 0)), (.int .i64 (.ofNat 0)), (.int .i64 (.ofNat 0))] [(0, 1, (.t 34)), (1, 1, (.c (.int .i64 (.ofNat 0)))), (2, 1, (.t 36))], [3, 5], none⟩⟩,
   ⟨true, ⟨(some 38), .bslice false .dyn 3 1 [(.int .i64 (.ofNat 0)), (.int .i64 (.ofNat 0)), (.int .i64 (.ofNat 0))] [(0, 3, (.t 37))], [6], none⟩⟩,
   ⟨true, ⟨(some 39), .append .dyn 3 24 (.t 32) (.t 38), [1, 7], none⟩⟩,
   ⟨true, ⟨(some 40), .faddr 3 (.t 3), [0, 1, 2, 3, 4, 5, 6, 7, 8], none⟩⟩,
   ⟨false, ⟨none, .store 1 (.t 40) (.t 39), [9, 8, 8, 0, 1, 2, 3, 4, 5, 6, 7, 8], none⟩⟩] [] 2196875772032)))
 (.region [⟨true, ⟨(some 41), .bin .add (.t 28) (.c (.int .i64 (.ofNat 1))), [], none⟩⟩,
   ⟨false, ⟨(some 28), .mov (.t 41), [0], none⟩⟩] [] 2199023255552)))))))
 (.seq (.region [⟨true, ⟨(some 42), .faddr 3 (.t 3), [], none⟩⟩,
   ⟨true, ⟨(some 43), .load none (.t 42), [0], none⟩⟩,
   ⟨true, ⟨(some 44), .mov (.t 0), [], none⟩⟩,
   ⟨true, ⟨(some 45), .bin .add (.t 44) (.c (.int .i64 (.ofNat 1))), [2], none⟩⟩,
   ⟨true, ⟨(some 46), .mov (.t 0), [], none⟩⟩,
   ⟨true, ⟨(some 47), .bin .add (.t 46) (.c (.int .i64 (.ofNat 1))), [4], none⟩⟩,
   ⟨true, ⟨(some 48), .build [(.int .i64 (.ofNat 0)), (.int .i64 (.ofNat 0)), (.int .i64 (.ofNat 0))] [(0, 1, (.t 45)), (1, 1, (.c (.int .i64 (.ofNat 2)))), (2, 1, (.t 47))], [3, 5], none⟩⟩,
   ⟨true, ⟨(some 49), .bslice false .dyn 3 1 [(.int .i64 (.ofNat 0)), (.int .i64 (.ofNat 0)), (.int .i64 (.ofNat 0))] [(0, 3, (.t 48))], [6], none⟩⟩,
   ⟨true, ⟨(some 50), .append .dyn 3 24 (.t 43) (.t 49), [1, 7], none⟩⟩,
   ⟨true, ⟨(some 51), .faddr 3 (.t 3), [0, 1, 2, 3, 4, 5, 6, 7, 8], none⟩⟩,
   ⟨false, ⟨none, .store 1 (.t 51) (.t 50), [9, 8, 8, 0, 1, 2, 3, 4, 5, 6, 7, 8], none⟩⟩] [] 4499201983512576)
 (.seq (.seq (.region [⟨true, ⟨(some 52), .faddr 1 (.t 3), [], none⟩⟩,
   ⟨true, ⟨(some 53), .load none (.t 52), [0], none⟩⟩,
   ⟨true, ⟨(some 54), .mov (.c (.int .i64 (.ofNat 0))), [], none⟩⟩] [] 4503599627370496)
 (.block 2 (.loop (.seq (.region [⟨true, ⟨(some 55), .bin .lss (.t 54) (.t 53), [], none⟩⟩] [] 0)
 (.seq (.cond (.t 55)
  .skip
  (.exit 2))
 (.seq (.block 3 (.seq (.region [⟨true, ⟨(some 56), .mov (.t 54), [], none⟩⟩,
   ⟨true, ⟨(some 8), .mov (.t 56), [0, 0], none⟩⟩] [] 108086391056891904)
 (.region [⟨true, ⟨(some 57), .faddr 2 (.t 3), [], none⟩⟩,
   ⟨true, ⟨(some 58), .load none (.t 57), [0], none⟩⟩,
   ⟨true, ⟨(some 59), .mov (.t 8), [], none⟩⟩,
   ⟨true, ⟨(some 60), .bslice false .dyn 1 1 [(.int .i64 (.ofNat 0))] [(0, 1, (.t 59))], [2], none⟩⟩,
   ⟨true, ⟨(some 61), .append .dyn 1 8 (.t 58) (.t 60), [1, 3], none⟩⟩,
   ⟨true, ⟨(some 62), .faddr 2 (.t 3), [0, 1, 2, 3, 4], none⟩⟩,
   ⟨false, ⟨none, .store 1 (.t 62) (.t 61), [5, 4, 4, 0, 1, 2, 3, 4], none⟩⟩] [] 9079256848778920192)))
 (.region [⟨true, ⟨(some 63), .bin .add (.t 54) (.c (.int .i64 (.ofNat 1))), [], none⟩⟩,
   ⟨false, ⟨(some 54), .mov (.t 63), [0], none⟩⟩] [] 9223372036854775808)))))))
 (.seq (.region [⟨true, ⟨(some 64), .mov (.t 2), [], none⟩⟩,
   ⟨true, ⟨(some 65), .load (some 4) (.t 3), [], none⟩⟩,
   ⟨true, ⟨(some 66), .mov (.t 0), [], none⟩⟩,
   ⟨true, ⟨(some 67), .bin .add (.t 66) (.c (.int .i64 (.ofNat 1))), [2], none⟩⟩,
   ⟨false, ⟨(some 2), .mov (.t 64), [0, 0], none⟩⟩,
   ⟨false, ⟨none, .store 4 (.t 3) (.t 65), [1, 4, 0, 1, 4], none⟩⟩,
   ⟨true, ⟨(some 4), .mov (.c (.int .i64 (.ofNat 1))), [5, 0, 1, 4, 5], none⟩⟩,
   ⟨true, ⟨(some 5), .mov (.t 67), [3, 6, 0, 1, 2, 3, 4, 5, 6], none⟩⟩,
   ⟨true, ⟨(some 6), .mov (.c (.int .i64 (.ofNat 0))), [7, 0, 1, 2, 3, 4, 5, 6, 7], none⟩⟩] [] 276728182703407497217)
 .ret))))))))⟩
def f17 : FFn := ⟨21, [.tmp 2],
 (.seq (.region [⟨true, ⟨(some 2), .mov (.c .nilsl), [], none⟩⟩] [] 4)
 (.seq (.region [⟨true, ⟨(some 6), .mov (.t 0), [], none⟩⟩,
   ⟨true, ⟨(some 7), .call .heap (.f 36) [(.t 6)], [0], none⟩⟩] [] 192)
 (.seq (.region [⟨true, ⟨(some 3), .mov (.c .nilsl), [], none⟩⟩] [] 0)
 (.seq (.seq (.region [⟨true, ⟨(some 8), .mov (.t 0), [], none⟩⟩,
   ⟨true, ⟨(some 9), .len 1 (.t 8), [0], none⟩⟩,
   ⟨true, ⟨(some 10), .mov (.c (.int .i64 (.ofNat 0))), [], none⟩⟩] [] 1)
 (.block 0 (.loop (.seq (.region [⟨true, ⟨(some 11), .bin .lss (.t 10) (.t 9), [], none⟩⟩] [] 0)
 (.seq (.cond (.t 11)
  .skip
  (.exit 0))
 (.seq (.block 1 (.seq (.region [⟨true, ⟨(some 12), .iaddr none 1 (.t 8) (.t 10), [], none⟩⟩,
   ⟨true, ⟨(some 13), .load none (.t 12), [0], none⟩⟩,
   ⟨true, ⟨(some 5), .mov (.t 13), [1, 0, 1], none⟩⟩] [] 14336)
 (.region [⟨true, ⟨(some 14), .mov (.t 3), [], none⟩⟩,
   ⟨true, ⟨(some 15), .mov (.t 5), [], none⟩⟩,
   ⟨true, ⟨(some 16), .build [(.int .i64 (.ofNat 0)), (.int .i64 (.ofNat 0))] [(0, 1, (.t 15)), (1, 1, (.c (.int .i64 (.ofNat 1))))], [1], none⟩⟩,
   ⟨true, ⟨(some 17), .bslice false .dyn 2 1 [(.int .i64 (.ofNat 0)), (.int .i64 (.ofNat 0))] [(0, 2, (.t 16))], [2], none⟩⟩,
   ⟨true, ⟨(some 18), .append .dyn 2 16 (.t 14) (.t 17), [0, 3], none⟩⟩,
   ⟨false, ⟨(some 3), .mov (.t 18), [4, 4, 0, 1, 2, 3, 4], none⟩⟩] [] 507936)))
 (.region [⟨true, ⟨(some 19), .bin .add (.t 10) (.c (.int .i64 (.ofNat 1))), [], none⟩⟩,
   ⟨false, ⟨(some 10), .mov (.t 19), [0], none⟩⟩] [] 524288)))))))
 (.seq (.region [⟨true, ⟨(some 20), .mov (.t 3), [], none⟩⟩,
   ⟨true, ⟨(some 2), .mov (.t 20), [0, 0], none⟩⟩] [] 1050376)
 .ret)))))⟩
def f18 : FFn := ⟨26, [.tmp 2, .tmp 3],
 (.seq (.region [⟨true, ⟨(some 1), .box .dyn (.t 0), [], none⟩⟩,
   ⟨true, ⟨(some 2), .mov (.c .nilptr), [], none⟩⟩,
   ⟨true, ⟨(some 3), .mov (.c (.int .i64 (.ofNat 0))), [1], none⟩⟩] [] 13)
 (.seq (.seq (.region [⟨true, ⟨(some 7), .load (some 2) (.t 1), [], none⟩⟩,
   ⟨true, ⟨(some 8), .call .heap (.f 37) [(.t 7)], [0], none⟩⟩,
   ⟨true, ⟨(some 4), .mov (.t 8), [1, 1, 0, 1], none⟩⟩] [] 384)
 (.seq (.region [⟨true, ⟨(some 9), .mov (.t 4), [], none⟩⟩,
   ⟨true, ⟨(some 10), .bin .neq (.t 9) (.c (.int .i64 (.ofNat 0))), [0], none⟩⟩] [] 512)
 (.cond (.t 10)
  (.seq (.region [⟨true, ⟨(some 11), .mov (.t 4), [], none⟩⟩,
    ⟨true, ⟨(some 2), .mov (.c .nilptr), [], none⟩⟩,
    ⟨true, ⟨(some 3), .mov (.t 11), [0, 1, 0, 1], none⟩⟩] [] 3090)
  .ret)
  .skip)))
 (.seq (.region [⟨true, ⟨(some 13), .load (some 2) (.t 1), [], none⟩⟩,
   ⟨true, ⟨(some 14), .call .heap (.f 38) [(.t 13)], [0], none⟩⟩,
   ⟨true, ⟨(some 12), .mov (.t 14), [1], none⟩⟩,
   ⟨true, ⟨(some 15), .extract 0 (.t 12), [2], none⟩⟩,
   ⟨true, ⟨(some 16), .extract 1 (.t 12), [2], none⟩⟩,
   ⟨true, ⟨(some 5), .mov (.t 15), [3, 1, 0, 1, 2, 3], none⟩⟩,
   ⟨true, ⟨(some 6), .mov (.t 16), [4, 5, 0, 1, 2, 3, 4, 5], none⟩⟩] [] 128030)
 (.seq (.seq (.region [⟨true, ⟨(some 17), .mov (.t 6), [], none⟩⟩,
   ⟨true, ⟨(some 18), .bin .neq (.t 17) (.c (.int .i64 (.ofNat 0))), [0], none⟩⟩] [] 131072)
 (.cond (.t 18)
  (.seq (.region [⟨true, ⟨(some 19), .mov (.t 6), [], none⟩⟩,
    ⟨true, ⟨(some 2), .mov (.c .nilptr), [], none⟩⟩,
    ⟨true, ⟨(some 3), .mov (.t 19), [0, 1, 0, 1], none⟩⟩] [] 786528)
  .ret)
  .skip))
 (.seq (.seq (.region [⟨true, ⟨(some 20), .mov (.t 5), [], none⟩⟩,
   ⟨true, ⟨(some 21), .nilchk (.t 20), [0], none⟩⟩,
   ⟨true, ⟨(some 22), .faddr 3 (.t 21), [1], none⟩⟩,
   ⟨true, ⟨(some 23), .load none (.t 22), [2], none⟩⟩,
   ⟨true, ⟨(some 24), .bin .geq (.t 23) (.c (.int .i64 (.ofNat 0))), [3], none⟩⟩] [] 15990860)
 (.cond (.t 24)
  (.seq (.region [⟨true, ⟨(some 2), .mov (.c .nilptr), [], none⟩⟩,
    ⟨true, ⟨(some 3), .mov (.c (.int .i64 (.ofNat 23))), [0, 0], none⟩⟩] [] 16777248)
  .ret)
  .skip))
 (.seq (.region [⟨true, ⟨(some 25), .mov (.t 5), [], none⟩⟩,
   ⟨false, ⟨(some 2), .mov (.t 25), [0, 0], none⟩⟩,
   ⟨false, ⟨(some 3), .mov (.c (.int .i64 (.ofNat 0))), [1, 0, 1], none⟩⟩] [] 50331680)
 .ret))))))⟩
def f19 : FFn := ⟨25, [.tmp 4],
 (.seq (.region [⟨true, ⟨(some 2), .box .dyn (.t 0), [], none⟩⟩,
   ⟨true, ⟨(some 4), .mov (.c .nilsl), [], none⟩⟩] [] 17)
 (.seq (.region [⟨true, ⟨(some 5), .mov (.c .nilsl), [], none⟩⟩] [] 0)
 (.seq (.seq (.region [⟨true, ⟨(some 8), .faddr 1 (.t 2), [], none⟩⟩,
   ⟨true, ⟨(some 9), .load none (.t 8), [0], none⟩⟩,
   ⟨true, ⟨(some 10), .len 1 (.t 9), [1], none⟩⟩,
   ⟨true, ⟨(some 11), .mov (.c (.int .i64 (.ofNat 0))), [], none⟩⟩] [] 260)
 (.block 0 (.loop (.seq (.region [⟨true, ⟨(some 12), .bin .lss (.t 11) (.t 10), [], none⟩⟩] [] 0)
 (.seq (.cond (.t 12)
  .skip
  (.exit 0))
 (.seq (.block 1 (.seq (.region [⟨true, ⟨(some 13), .mov (.t 11), [], none⟩⟩,
   ⟨true, ⟨(some 14), .iaddr none 3 (.t 9) (.t 11), [], none⟩⟩,
   ⟨true, ⟨(some 15), .load (some 3) (.t 14), [1], none⟩⟩,
   ⟨true, ⟨(some 7), .alloc .dyn (.agg [(.int .i64 (.ofNat 0)), .nilsl, .nilsl]), [], none⟩⟩,
   ⟨true, ⟨(some 6), .mov (.t 13), [0, 0, 1, 2, 3], none⟩⟩,
   ⟨false, ⟨none, .store 3 (.t 7) (.t 15), [3, 2, 4, 0, 1, 2, 3, 4], none⟩⟩] [] 61440)
 (.seq (.region [⟨true, ⟨(some 16), .load (some 3) (.t 7), [], none⟩⟩,
   ⟨true, ⟨(some 17), .mov (.t 1), [], none⟩⟩,
   ⟨true, ⟨(some 18), .call .heap (.f 39) [(.t 16), (.t 17)], [0, 1], none⟩⟩] [] 196736)
 (.cond (.t 18)
  (.region [⟨true, ⟨(some 19), .mov (.t 5), [], none⟩⟩,
    ⟨true, ⟨(some 20), .mov (.t 6), [], none⟩⟩,
    ⟨true, ⟨(some 21), .bslice false .dyn 1 1 [(.int .i64 (.ofNat 0))] [(0, 1, (.t 20))], [1], none⟩⟩,
    ⟨true, ⟨(some 22), .append .dyn 1 8 (.t 19) (.t 21), [0, 2], none⟩⟩,
    ⟨false, ⟨(some 5), .mov (.t 22), [3, 3, 0, 1, 2, 3], none⟩⟩] [] 8126528)
  .skip))))
 (.region [⟨true, ⟨(some 23), .bin .add (.t 11) (.c (.int .i64 (.ofNat 1))), [], none⟩⟩,
   ⟨false, ⟨(some 11), .mov (.t 23), [0], none⟩⟩] [] 8650816)))))))
 (.seq (.region [⟨true, ⟨(some 24), .mov (.t 5), [], none⟩⟩,
   ⟨true, ⟨(some 4), .mov (.t 24), [0, 0], none⟩⟩] [] 16780834)
 .ret))))⟩
def f20 : FFn := ⟨37, [.tmp 4],
 (.seq (.region [⟨true, ⟨(some 4), .mov (.c .nilsl), [], none⟩⟩] [] 16)
 (.seq (.region [⟨true, ⟨(some 5), .mov (.c .nilsl), [], none⟩⟩] [] 0)
 (.seq (.block 0 (.loop (.seq (.seq (.region [⟨true, ⟨(some 6), .mov (.t 0), [], none⟩⟩,
   ⟨true, ⟨(some 7), .nilchk (.t 6), [0], none⟩⟩,
   ⟨true, ⟨(some 8), .faddr 0 (.t 7), [1], none⟩⟩,
   ⟨true, ⟨(some 9), .load none (.t 8), [2], none⟩⟩,
   ⟨true, ⟨(some 10), .mov (.t 1), [], none⟩⟩,
   ⟨true, ⟨(some 11), .iaddr none 3 (.t 9) (.t 10), [3, 4], none⟩⟩,
   ⟨true, ⟨(some 12), .faddr 1 (.t 11), [5], none⟩⟩,
   ⟨true, ⟨(some 13), .load none (.t 12), [6], none⟩⟩,
   ⟨true, ⟨(some 14), .bin .geq (.t 13) (.c (.int .i64 (.ofNat 0))), [7], none⟩⟩] [] 16320)
 (.cond (.t 14)
  .skip
  (.exit 0)))
 (.seq (.block 1 (.region [⟨true, ⟨(some 23), .mov (.t 5), [], none⟩⟩,
   ⟨true, ⟨(some 24), .mov (.t 0), [], none⟩⟩,
   ⟨true, ⟨(some 25), .nilchk (.t 24), [1], none⟩⟩,
   ⟨true, ⟨(some 26), .faddr 0 (.t 25), [2], none⟩⟩,
   ⟨true, ⟨(some 27), .load none (.t 26), [3], none⟩⟩,
   ⟨true, ⟨(some 28), .mov (.t 1), [], none⟩⟩,
   ⟨true, ⟨(some 29), .iaddr none 3 (.t 27) (.t 28), [4, 5], none⟩⟩,
   ⟨true, ⟨(some 30), .faddr 2 (.t 29), [6], none⟩⟩,
   ⟨true, ⟨(some 31), .load none (.t 30), [7], none⟩⟩,
   ⟨true, ⟨(some 32), .bslice false .dyn 1 1 [(.int .i64 (.ofNat 0))] [(0, 1, (.t 31))], [8], none⟩⟩,
   ⟨true, ⟨(some 33), .append .dyn 1 8 (.t 23) (.t 32), [0, 9], none⟩⟩,
   ⟨false, ⟨(some 5), .mov (.t 33), [10, 10, 0, 1, 2, 3, 4, 5, 6, 7, 8, 9, 10], none⟩⟩] [] 17171496960))
 (.region [⟨true, ⟨(some 15), .mov (.t 0), [], none⟩⟩,
   ⟨true, ⟨(some 16), .nilchk (.t 15), [0], none⟩⟩,
   ⟨true, ⟨(some 17), .faddr 0 (.t 16), [1], none⟩⟩,
   ⟨true, ⟨(some 18), .load none (.t 17), [2], none⟩⟩,
   ⟨true, ⟨(some 19), .mov (.t 1), [], none⟩⟩,
   ⟨true, ⟨(some 20), .iaddr none 3 (.t 18) (.t 19), [3, 4], none⟩⟩,
   ⟨true, ⟨(some 21), .faddr 1 (.t 20), [5], none⟩⟩,
   ⟨true, ⟨(some 22), .load none (.t 21), [6], none⟩⟩,
   ⟨false, ⟨(some 1), .mov (.t 22), [7, 0, 1, 2, 3, 4, 5, 6, 7], none⟩⟩] [] 8355840)))))
 (.seq (.region [⟨true, ⟨(some 34), .mov (.t 5), [], none⟩⟩,
   ⟨true, ⟨(some 35), .call .heap (.f 40) [(.t 34)], [0], none⟩⟩] [] 51539607555)
 (.seq (.region [⟨true, ⟨(some 36), .mov (.t 5), [], none⟩⟩,
   ⟨true, ⟨(some 4), .mov (.t 36), [0, 0], none⟩⟩] [] 68719476768)
 .ret)))))⟩
def f21 : FFn := ⟨26, [.tmp 4],
 (.seq (.region [⟨true, ⟨(some 4), .mov (.c (.bool false)), [], none⟩⟩] [] 16)
 (.seq (.seq (.region [⟨true, ⟨(some 6), .mov (.t 0), [], none⟩⟩,
   ⟨true, ⟨(some 7), .len 1 (.t 6), [0], none⟩⟩,
   ⟨true, ⟨(some 8), .mov (.t 1), [], none⟩⟩,
   ⟨true, ⟨(some 9), .len 1 (.t 8), [2], none⟩⟩,
   ⟨true, ⟨(some 10), .bin .neq (.t 7) (.t 9), [1, 3], none⟩⟩] [] 960)
 (.cond (.t 10)
  (.seq (.region [⟨true, ⟨(some 4), .mov (.c (.bool false)), [], none⟩⟩] [] 1027)
  .ret)
  .skip))
 (.seq (.seq (.region [⟨true, ⟨(some 11), .mov (.t 0), [], none⟩⟩,
   ⟨true, ⟨(some 12), .len 1 (.t 11), [0], none⟩⟩,
   ⟨true, ⟨(some 13), .mov (.c (.int .i64 (.ofNat 0))), [], none⟩⟩] [] 3088)
 (.block 0 (.loop (.seq (.region [⟨true, ⟨(some 14), .bin .lss (.t 13) (.t 12), [], none⟩⟩] [] 0)
 (.seq (.cond (.t 14)
  .skip
  (.exit 0))
 (.seq (.block 1 (.seq (.region [⟨true, ⟨(some 15), .mov (.t 13), [], none⟩⟩,
   ⟨true, ⟨(some 5), .mov (.t 15), [0, 0], none⟩⟩] [] 49152)
 (.seq (.region [⟨true, ⟨(some 16), .mov (.t 0), [], none⟩⟩,
   ⟨true, ⟨(some 17), .mov (.t 5), [], none⟩⟩,
   ⟨true, ⟨(some 18), .iaddr none 1 (.t 16) (.t 17), [0, 1], none⟩⟩,
   ⟨true, ⟨(some 19), .load none (.t 18), [2], none⟩⟩,
   ⟨true, ⟨(some 20), .mov (.t 1), [], none⟩⟩,
   ⟨true, ⟨(some 21), .mov (.t 5), [], none⟩⟩,
   ⟨true, ⟨(some 22), .iaddr none 1 (.t 20) (.t 21), [4, 5], none⟩⟩,
   ⟨true, ⟨(some 23), .load none (.t 22), [6], none⟩⟩,
   ⟨true, ⟨(some 24), .bin .neq (.t 19) (.t 23), [3, 7], none⟩⟩] [] 16711712)
 (.cond (.t 24)
  (.seq (.region [⟨true, ⟨(some 4), .mov (.c (.bool false)), [], none⟩⟩] [] 16789507)
  .ret)
  .skip))))
 (.region [⟨true, ⟨(some 25), .bin .add (.t 13) (.c (.int .i64 (.ofNat 1))), [], none⟩⟩,
   ⟨false, ⟨(some 13), .mov (.t 25), [0], none⟩⟩] [] 50331664)))))))
 (.seq (.region [⟨true, ⟨(some 4), .mov (.c (.bool true)), [], none⟩⟩] [] 12291)
 .ret))))⟩
def f22 : FFn := ⟨32, [.tmp 6],
 (.seq (.region [⟨true, ⟨(some 6), .mov (.c (.bool false)), [], none⟩⟩] [] 64)
 (.seq (.seq (.region [⟨true, ⟨(some 10), .mov (.t 0), [], none⟩⟩,
   ⟨true, ⟨(some 11), .len 1 (.t 10), [0], none⟩⟩,
   ⟨true, ⟨(some 12), .mov (.t 1), [], none⟩⟩,
   ⟨true, ⟨(some 13), .len 1 (.t 12), [2], none⟩⟩,
   ⟨true, ⟨(some 14), .bin .neq (.t 11) (.t 13), [1, 3], none⟩⟩] [] 15360)
 (.cond (.t 14)
  (.seq (.region [⟨true, ⟨(some 6), .mov (.c (.bool false)), [], none⟩⟩] [] 16391)
  .ret)
  .skip))
 (.seq (.seq (.region [⟨true, ⟨(some 15), .mov (.t 0), [], none⟩⟩,
   ⟨true, ⟨(some 16), .len 1 (.t 15), [0], none⟩⟩,
   ⟨true, ⟨(some 17), .mov (.c (.int .i64 (.ofNat 0))), [], none⟩⟩] [] 16449)
 (.block 0 (.loop (.seq (.region [⟨true, ⟨(some 18), .bin .lss (.t 17) (.t 16), [], none⟩⟩] [] 0)
 (.seq (.cond (.t 18)
  .skip
  (.exit 0))
 (.seq (.block 1 (.seq (.region [⟨true, ⟨(some 19), .mov (.t 17), [], none⟩⟩,
   ⟨true, ⟨(some 20), .iaddr none 3 (.t 15) (.t 17), [], none⟩⟩,
   ⟨true, ⟨(some 21), .load (some 3) (.t 20), [1], none⟩⟩,
   ⟨true, ⟨(some 8), .alloc .dyn (.agg [(.int .i64 (.ofNat 0)), .nilsl, .nilsl]), [], none⟩⟩,
   ⟨true, ⟨(some 7), .mov (.t 19), [0, 0, 1, 2, 3], none⟩⟩,
   ⟨false, ⟨none, .store 3 (.t 8) (.t 21), [3, 2, 4, 0, 1, 2, 3, 4], none⟩⟩] [] 3932160)
 (.seq (.region [⟨true, ⟨(some 22), .mov (.t 1), [], none⟩⟩,
   ⟨true, ⟨(some 23), .mov (.t 7), [], none⟩⟩,
   ⟨true, ⟨(some 24), .iaddr none 3 (.t 22) (.t 23), [0, 1], none⟩⟩,
   ⟨true, ⟨(some 25), .load (some 3) (.t 24), [2], none⟩⟩,
   ⟨true, ⟨(some 9), .alloc .dyn (.agg [(.int .i64 (.ofNat 0)), .nilsl, .nilsl]), [], none⟩⟩,
   ⟨false, ⟨none, .store 3 (.t 9) (.t 25), [4, 3, 0, 1, 2, 3, 4], none⟩⟩] [] 62914688)
 (.seq (.region [⟨true, ⟨(some 26), .mov (.t 2), [], none⟩⟩,
   ⟨true, ⟨(some 27), .load (some 3) (.t 8), [], none⟩⟩,
   ⟨true, ⟨(some 28), .load (some 3) (.t 9), [], none⟩⟩,
   ⟨true, ⟨(some 29), .call .heap (.t 26) [(.t 27), (.t 28)], [0, 1, 2], none⟩⟩,
   ⟨true, ⟨(some 30), .un .not (.t 29), [3], none⟩⟩] [] 1006633728)
 (.cond (.t 30)
  (.seq (.region [⟨true, ⟨(some 6), .mov (.c (.bool false)), [], none⟩⟩] [] 1073971206)
  .ret)
  .skip)))))
 (.region [⟨true, ⟨(some 31), .bin .add (.t 17) (.c (.int .i64 (.ofNat 1))), [], none⟩⟩,
   ⟨false, ⟨(some 17), .mov (.t 31), [0], none⟩⟩] [] 3221225536)))))))
 (.seq (.region [⟨true, ⟨(some 6), .mov (.c (.bool true)), [], none⟩⟩] [] 229382)
 .ret))))⟩
def f23 : FFn := ⟨24, [.tmp 4],
 (.seq (.region [⟨true, ⟨(some 2), .box .dyn (.t 0), [], none⟩⟩,
   ⟨true, ⟨(some 3), .box .dyn (.t 1), [], none⟩⟩,
   ⟨true, ⟨(some 4), .mov (.c (.bool false)), [], none⟩⟩] [] 19)
 (.seq (.region [⟨true, ⟨(some 5), .faddr 0 (.t 2), [], none⟩⟩,
   ⟨true, ⟨(some 6), .load none (.t 5), [0], none⟩⟩,
   ⟨true, ⟨(some 7), .faddr 0 (.t 3), [], none⟩⟩,
   ⟨true, ⟨(some 8), .load none (.t 7), [2], none⟩⟩,
   ⟨true, ⟨(some 9), .bin .eql (.t 6) (.t 8), [1, 3], none⟩⟩,
   ⟨true, ⟨(some 10), .mov (.t 9), [4], none⟩⟩,
   ⟨true, ⟨(some 11), .faddr 1 (.t 2), [5], (some (10, true))⟩⟩,
   ⟨true, ⟨(some 12), .load none (.t 11), [6, 5], (some (10, true))⟩⟩,
   ⟨true, ⟨(some 13), .faddr 1 (.t 3), [5], (some (10, true))⟩⟩,
   ⟨true, ⟨(some 14), .load none (.t 13), [8, 5], (some (10, true))⟩⟩,
   ⟨true, ⟨(some 15), .call .heap (.f 24) [(.t 12), (.t 14)], [7, 9, 5, 5], (some (10, true))⟩⟩,
   ⟨true, ⟨(some 16), .pick (.t 10) (.t 15) (.c (.bool false)), [5, 10], none⟩⟩,
   ⟨true, ⟨(some 17), .mov (.t 16), [11, 10], none⟩⟩,
   ⟨true, ⟨(some 18), .faddr 2 (.t 2), [12], (some (17, true))⟩⟩,
   ⟨true, ⟨(some 19), .load none (.t 18), [13, 12], (some (17, true))⟩⟩,
   ⟨true, ⟨(some 20), .faddr 2 (.t 3), [12], (some (17, true))⟩⟩,
   ⟨true, ⟨(some 21), .load none (.t 20), [15, 12], (some (17, true))⟩⟩,
   ⟨true, ⟨(some 22), .call .heap (.f 24) [(.t 19), (.t 21)], [14, 16, 12, 12], (some (17, true))⟩⟩,
   ⟨true, ⟨(some 23), .pick (.t 17) (.t 22) (.c (.bool false)), [12, 17], none⟩⟩,
   ⟨true, ⟨(some 4), .mov (.t 23), [18, 17, 0, 1, 2, 3, 4, 5, 6, 7, 8, 9, 10, 11, 12, 13, 14, 15, 16, 17, 18], none⟩⟩] [] 16777196)
 .ret))⟩
def f24 : FFn := ⟨26, [.tmp 4],
 (.seq (.region [⟨true, ⟨(some 4), .mov (.c (.bool false)), [], none⟩⟩] [] 16)
 (.seq (.seq (.region [⟨true, ⟨(some 6), .mov (.t 0), [], none⟩⟩,
   ⟨true, ⟨(some 7), .len 1 (.t 6), [0], none⟩⟩,
   ⟨true, ⟨(some 8), .mov (.t 1), [], none⟩⟩,
   ⟨true, ⟨(some 9), .len 1 (.t 8), [2], none⟩⟩,
   ⟨true, ⟨(some 10), .bin .neq (.t 7) (.t 9), [1, 3], none⟩⟩] [] 960)
 (.cond (.t 10)
  (.seq (.region [⟨true, ⟨(some 4), .mov (.c (.bool false)), [], none⟩⟩] [] 1027)
  .ret)
  .skip))
 (.seq (.seq (.region [⟨true, ⟨(some 11), .mov (.t 0), [], none⟩⟩,
   ⟨true, ⟨(some 12), .len 1 (.t 11), [0], none⟩⟩,
   ⟨true, ⟨(some 13), .mov (.c (.int .i64 (.ofNat 0))), [], none⟩⟩] [] 3088)
 (.block 0 (.loop (.seq (.region [⟨true, ⟨(some 14), .bin .lss (.t 13) (.t 12), [], none⟩⟩] [] 0)
 (.seq (.cond (.t 14)
  .skip
  (.exit 0))
 (.seq (.block 1 (.seq (.region [⟨true, ⟨(some 15), .mov (.t 13), [], none⟩⟩,
   ⟨true, ⟨(some 5), .mov (.t 15), [0, 0], none⟩⟩] [] 49152)
 (.seq (.region [⟨true, ⟨(some 16), .mov (.t 0), [], none⟩⟩,
   ⟨true, ⟨(some 17), .mov (.t 5), [], none⟩⟩,
   ⟨true, ⟨(some 18), .iaddr none 2 (.t 16) (.t 17), [0, 1], none⟩⟩,
   ⟨true, ⟨(some 19), .load (some 2) (.t 18), [2], none⟩⟩,
   ⟨true, ⟨(some 20), .mov (.t 1), [], none⟩⟩,
   ⟨true, ⟨(some 21), .mov (.t 5), [], none⟩⟩,
   ⟨true, ⟨(some 22), .iaddr none 2 (.t 20) (.t 21), [4, 5], none⟩⟩,
   ⟨true, ⟨(some 23), .load (some 2) (.t 22), [6], none⟩⟩,
   ⟨true, ⟨(some 24), .eq (.flat true [.i, .i]) true (.t 19) (.t 23), [3, 7], none⟩⟩] [] 16711712)
 (.cond (.t 24)
  (.seq (.region [⟨true, ⟨(some 4), .mov (.c (.bool false)), [], none⟩⟩] [] 16789507)
  .ret)
  .skip))))
 (.region [⟨true, ⟨(some 25), .bin .add (.t 13) (.c (.int .i64 (.ofNat 1))), [], none⟩⟩,
   ⟨false, ⟨(some 13), .mov (.t 25), [0], none⟩⟩] [] 50331664)))))))
 (.seq (.region [⟨true, ⟨(some 4), .mov (.c (.bool true)), [], none⟩⟩] [] 12291)
 .ret))))⟩
def f25 : FFn := ⟨80, [.cell 4 (some 2), .tmp 5],
 (.seq (.region [⟨true, ⟨(some 2), .box .dyn (.t 0), [], none⟩⟩,
   ⟨true, ⟨(some 4), .alloc .dyn (.agg [(.int .i64 (.ofNat 0)), .nilsl]), [], none⟩⟩,
   ⟨true, ⟨(some 5), .mov (.c (.int .i64 (.ofNat 0))), [], none⟩⟩] [] 33)
 (.seq (.region [⟨true, ⟨(some 14), .load (some 2) (.t 2), [], none⟩⟩,
   ⟨true, ⟨(some 15), .call .heap (.f 41) [(.t 14)], [0], none⟩⟩,
   ⟨true, ⟨(some 13), .mov (.t 15), [1], none⟩⟩,
   ⟨true, ⟨(some 16), .extract 0 (.t 13), [2], none⟩⟩,
   ⟨true, ⟨(some 17), .extract 1 (.t 13), [2], none⟩⟩,
   ⟨true, ⟨(some 6), .mov (.t 16), [3, 1, 0, 1, 2, 3], none⟩⟩,
   ⟨true, ⟨(some 7), .mov (.t 17), [4, 5, 0, 1, 2, 3, 4, 5], none⟩⟩] [] 253952)
 (.seq (.seq (.region [⟨true, ⟨(some 18), .mov (.t 7), [], none⟩⟩,
   ⟨true, ⟨(some 19), .bin .neq (.t 18) (.c (.int .i64 (.ofNat 0))), [0], none⟩⟩] [] 262144)
 (.cond (.t 19)
  (.seq (.region [⟨true, ⟨(some 20), .build [(.int .i64 (.ofNat 0)), .nilsl] [], [], none⟩⟩,
    ⟨true, ⟨(some 21), .mov (.t 7), [], none⟩⟩,
    ⟨false, ⟨none, .store 2 (.t 4) (.t 20), [0, 0], none⟩⟩,
    ⟨true, ⟨(some 5), .mov (.t 21), [1, 2, 0, 1, 2], none⟩⟩] [] 3670214)
  .ret)
  .skip))
 (.seq (.seq (.region [⟨true, ⟨(some 22), .mov (.t 1), [], none⟩⟩,
   ⟨true, ⟨(some 23), .bin .neq (.t 22) (.c (.int .i64 (.ofNat 1))), [0], none⟩⟩,
   ⟨true, ⟨(some 24), .mov (.t 23), [1], none⟩⟩,
   ⟨true, ⟨(some 25), .mov (.t 1), [2], (some (24, true))⟩⟩,
   ⟨true, ⟨(some 26), .bin .neq (.t 25) (.c (.int .i64 (.ofNat 2))), [3, 2], (some (24, true))⟩⟩,
   ⟨true, ⟨(some 27), .pick (.t 24) (.t 26) (.c (.bool false)), [2, 4], none⟩⟩] [] 130547872)
 (.cond (.t 27)
  (.seq (.region [⟨true, ⟨(some 28), .build [(.int .i64 (.ofNat 0)), .nilsl] [], [], none⟩⟩,
    ⟨false, ⟨none, .store 2 (.t 4) (.t 28), [0, 0], none⟩⟩,
    ⟨true, ⟨(some 5), .mov (.c (.int .i64 (.ofNat 11))), [1, 0, 1], none⟩⟩] [] 402653254)
  .ret)
  .skip))
 (.seq (.region [⟨true, ⟨(some 29), .faddr 0 (.t 2), [], none⟩⟩,
   ⟨true, ⟨(some 30), .load none (.t 29), [0], none⟩⟩,
   ⟨true, ⟨(some 31), .len 1 (.t 30), [1], none⟩⟩,
   ⟨true, ⟨(some 32), .faddr 1 (.t 2), [], none⟩⟩,
   ⟨true, ⟨(some 33), .load none (.t 32), [3], none⟩⟩,
   ⟨true, ⟨(some 34), .len 1 (.t 33), [4], none⟩⟩,
   ⟨true, ⟨(some 35), .mkslice .dyn 10 80 [(.int .i64 (.ofNat 0)), (.int .i64 (.ofNat 0)), (.int .i64 (.ofNat 0)), (.int .i64 (.ofNat 0)), (.int .i64 (.ofNat 0)), (.int .i64 (.ofNat 0)), (.int .i64 (.ofNat 0)), (.int .i64 (.ofNat 0)), (.int .i64 (.ofNat 0)), (.int .i64 (.ofNat 0))] (.t 34) (.t 34), [5, 5], none⟩⟩,
   ⟨true, ⟨(some 36), .build [(.int .i64 (.ofNat 0)), .nilsl] [(0, 1, (.t 31)), (1, 1, (.t 35))], [2, 6], none⟩⟩,
   ⟨true, ⟨(some 8), .alloc .dyn (.agg [(.int .i64 (.ofNat 0)), .nilsl]), [], none⟩⟩,
   ⟨false, ⟨none, .store 2 (.t 8) (.t 36), [8, 7, 0, 1, 2, 3, 4, 5, 6, 7, 8], none⟩⟩] [] 137036300320)
 (.seq (.seq (.region [⟨true, ⟨(some 37), .mov (.t 1), [], none⟩⟩,
   ⟨true, ⟨(some 38), .bin .eql (.t 37) (.c (.int .i64 (.ofNat 2))), [0], none⟩⟩] [] 137438953472)
 (.cond (.t 38)
  (.region [⟨true, ⟨(some 39), .faddr 1 (.t 2), [], none⟩⟩,
    ⟨true, ⟨(some 40), .load none (.t 39), [0], none⟩⟩,
    ⟨true, ⟨(some 41), .len 1 (.t 40), [1], none⟩⟩,
    ⟨true, ⟨(some 42), .faddr 0 (.t 2), [], none⟩⟩,
    ⟨true, ⟨(some 43), .load none (.t 42), [3], none⟩⟩,
    ⟨true, ⟨(some 44), .len 1 (.t 43), [4], none⟩⟩,
    ⟨true, ⟨(some 45), .mkslice .dyn 10 80 [(.int .i64 (.ofNat 0)), (.int .i64 (.ofNat 0)), (.int .i64 (.ofNat 0)), (.int .i64 (.ofNat 0)), (.int .i64 (.ofNat 0)), (.int .i64 (.ofNat 0)), (.int .i64 (.ofNat 0)), (.int .i64 (.ofNat 0)), (.int .i64 (.ofNat 0)), (.int .i64 (.ofNat 0))] (.t 44) (.t 44), [5, 5], none⟩⟩,
    ⟨true, ⟨(some 46), .build [(.int .i64 (.ofNat 0)), .nilsl] [(0, 1, (.t 41)), (1, 1, (.t 45))], [2, 6], none⟩⟩,
    ⟨false, ⟨none, .store 2 (.t 8) (.t 46), [7, 0, 1, 2, 3, 4, 5, 6, 7], none⟩⟩] [] 140462610448388)
  .skip))
 (.seq (.seq (.region [⟨true, ⟨(some 47), .mov (.t 6), [], none⟩⟩,
   ⟨true, ⟨(some 48), .len 1 (.t 47), [0], none⟩⟩,
   ⟨true, ⟨(some 49), .mov (.c (.int .i64 (.ofNat 0))), [], none⟩⟩] [] 274877907012)
 (.block 0 (.loop (.seq (.region [⟨true, ⟨(some 50), .bin .lss (.t 49) (.t 48), [], none⟩⟩] [] 0)
 (.seq (.cond (.t 50)
  .skip
  (.exit 0))
 (.seq (.block 1 (.seq (.region [⟨true, ⟨(some 51), .mov (.t 49), [], none⟩⟩,
   ⟨true, ⟨(some 52), .iaddr none 1 (.t 47) (.t 49), [], none⟩⟩,
   ⟨true, ⟨(some 53), .load none (.t 52), [1], none⟩⟩,
   ⟨true, ⟨(some 9), .mov (.t 51), [0, 0, 1, 2], none⟩⟩,
   ⟨true, ⟨(some 10), .mov (.t 53), [2, 3, 0, 1, 2, 3], none⟩⟩] [] 16888498602639360)
 (.seq (.region [⟨true, ⟨(some 54), .mov (.t 10), [], none⟩⟩,
   ⟨true, ⟨(some 55), .len 1 (.t 54), [0], none⟩⟩,
   ⟨true, ⟨(some 56), .mov (.c (.int .i64 (.ofNat 0))), [], none⟩⟩] [] 1024)
 (.block 2 (.loop (.seq (.region [⟨true, ⟨(some 57), .bin .lss (.t 56) (.t 55), [], none⟩⟩] [] 0)
 (.seq (.cond (.t 57)
  .skip
  (.exit 2))
 (.seq (.block 3 (.seq (.region [⟨true, ⟨(some 58), .mov (.t 56), [], none⟩⟩,
   ⟨true, ⟨(some 59), .iaddr none 1 (.t 54) (.t 56), [], none⟩⟩,
   ⟨true, ⟨(some 60), .load none (.t 59), [1], none⟩⟩,
   ⟨true, ⟨(some 11), .mov (.t 58), [0, 0, 1, 2], none⟩⟩,
   ⟨true, ⟨(some 12), .mov (.t 60), [2, 3, 0, 1, 2, 3], none⟩⟩] [] 2161727821137838080)
 (.seq (.region [⟨true, ⟨(some 61), .mov (.t 1), [], none⟩⟩,
   ⟨true, ⟨(some 62), .bin .eql (.t 61) (.c (.int .i64 (.ofNat 1))), [0], none⟩⟩] [] 2305843009213693952)
 (.cond (.t 62)
  (.region [⟨true, ⟨(some 63), .faddr 1 (.t 8), [], none⟩⟩,
    ⟨true, ⟨(some 64), .load none (.t 63), [0], none⟩⟩,
    ⟨true, ⟨(some 65), .mov (.t 11), [], none⟩⟩,
    ⟨true, ⟨(some 66), .mov (.t 9), [], none⟩⟩,
    ⟨true, ⟨(some 67), .mov (.t 12), [], none⟩⟩,
    ⟨true, ⟨(some 68), .iaddr none 10 (.t 64) (.t 65), [1, 2], none⟩⟩,
    ⟨true, ⟨(some 69), .iaddr (some 10) 1 (.t 68) (.t 66), [5, 3, 0, 1, 2, 3, 4], none⟩⟩,
    ⟨false, ⟨none, .store 1 (.t 69) (.t 67), [6, 4, 0, 1, 2, 3, 4], none⟩⟩] [] 1175979934698983921664)
  (.region [⟨true, ⟨(some 70), .faddr 1 (.t 8), [], none⟩⟩,
    ⟨true, ⟨(some 71), .load none (.t 70), [0], none⟩⟩,
    ⟨true, ⟨(some 72), .mov (.t 9), [], none⟩⟩,
    ⟨true, ⟨(some 73), .mov (.t 11), [], none⟩⟩,
    ⟨true, ⟨(some 74), .mov (.t 12), [], none⟩⟩,
    ⟨true, ⟨(some 75), .iaddr none 10 (.t 71) (.t 72), [1, 2], none⟩⟩,
    ⟨true, ⟨(some 76), .iaddr (some 10) 1 (.t 75) (.t 73), [5, 3, 0, 1, 2, 3, 4], none⟩⟩,
    ⟨false, ⟨none, .store 1 (.t 76) (.t 74), [6, 4, 0, 1, 2, 3, 4], none⟩⟩] [] 149939747517129662928896)))))
 (.region [⟨true, ⟨(some 77), .bin .add (.t 56) (.c (.int .i64 (.ofNat 1))), [], none⟩⟩,
   ⟨false, ⟨(some 56), .mov (.t 77), [0], none⟩⟩] [] 151115727451828646838272)))))))))
 (.region [⟨true, ⟨(some 78), .bin .add (.t 49) (.c (.int .i64 (.ofNat 1))), [], none⟩⟩,
   ⟨false, ⟨(some 49), .mov (.t 78), [0], none⟩⟩] [] 302231581004446860050944)))))))
 (.seq (.region [⟨true, ⟨(some 79), .load (some 2) (.t 8), [], none⟩⟩,
   ⟨false, ⟨none, .store 2 (.t 4) (.t 79), [0, 0], none⟩⟩,
   ⟨true, ⟨(some 5), .mov (.c (.int .i64 (.ofNat 0))), [1, 0, 1], none⟩⟩] [] 604462910792477005840642)
 .ret))))))))⟩
def f26 : FFn := ⟨11, [.tmp 4],
 (.seq (.region [⟨true, ⟨(some 4), .mov (.c (.int .i64 (.ofNat 0))), [], none⟩⟩] [] 16)
 (.seq (.seq (.region [⟨true, ⟨(some 5), .mov (.t 0), [], none⟩⟩,
   ⟨true, ⟨(some 6), .len 1 (.t 5), [0], none⟩⟩,
   ⟨true, ⟨(some 7), .mov (.t 1), [], none⟩⟩,
   ⟨true, ⟨(some 8), .bin .neq (.t 6) (.t 7), [1, 2], none⟩⟩] [] 226)
 (.cond (.t 8)
  (.seq (.region [⟨true, ⟨(some 4), .mov (.c (.int .i64 (.ofNat 4))), [], none⟩⟩] [] 257)
  .ret)
  .skip))
 (.seq (.region [⟨true, ⟨(some 9), .mov (.t 0), [], none⟩⟩,
   ⟨true, ⟨(some 10), .call .heap (.f 42) [(.t 9)], [0], none⟩⟩,
   ⟨false, ⟨(some 4), .mov (.t 10), [1, 1, 0, 1], none⟩⟩] [] 1793)
 .ret)))⟩
def f27 : FFn := ⟨39, [.tmp 4],
 (.seq (.region [⟨true, ⟨(some 2), .box .dyn (.t 0), [], none⟩⟩,
   ⟨true, ⟨(some 4), .mov (.c (.bool false)), [], none⟩⟩] [] 17)
 (.seq (.seq (.region [⟨true, ⟨(some 10), .faddr 1 (.t 2), [], none⟩⟩,
   ⟨true, ⟨(some 11), .load none (.t 10), [0], none⟩⟩,
   ⟨true, ⟨(some 12), .len 1 (.t 11), [1], none⟩⟩,
   ⟨true, ⟨(some 13), .mov (.c (.int .i64 (.ofNat 0))), [], none⟩⟩] [] 1028)
 (.block 0 (.loop (.seq (.region [⟨true, ⟨(some 14), .bin .lss (.t 13) (.t 12), [], none⟩⟩] [] 0)
 (.seq (.cond (.t 14)
  .skip
  (.exit 0))
 (.seq (.block 1 (.seq (.region [⟨true, ⟨(some 15), .iaddr none 10 (.t 11) (.t 13), [], none⟩⟩,
   ⟨true, ⟨(some 16), .load (some 10) (.t 15), [0], none⟩⟩,
   ⟨true, ⟨(some 6), .alloc .dyn (.agg [(.int .i64 (.ofNat 0)), (.int .i64 (.ofNat 0)), (.int .i64 (.ofNat 0)), (.int .i64 (.ofNat 0)), (.int .i64 (.ofNat 0)), (.int .i64 (.ofNat 0)), (.int .i64 (.ofNat 0)), (.int .i64 (.ofNat 0)), (.int .i64 (.ofNat 0)), (.int .i64 (.ofNat 0))]), [], none⟩⟩,
   ⟨false, ⟨none, .store 10 (.t 6) (.t 16), [2, 1, 0, 1, 2], none⟩⟩] [] 114688)
 (.seq (.region [⟨true, ⟨(some 7), .mov (.c (.int .i64 (.ofNat 0))), [], none⟩⟩] [] 0)
 (.seq (.seq (.region [⟨true, ⟨(some 17), .mov (.t 1), [], none⟩⟩,
   ⟨true, ⟨(some 18), .len 1 (.t 17), [0], none⟩⟩,
   ⟨true, ⟨(some 19), .mov (.c (.int .i64 (.ofNat 0))), [], none⟩⟩] [] 0)
 (.block 2 (.loop (.seq (.region [⟨true, ⟨(some 20), .bin .lss (.t 19) (.t 18), [], none⟩⟩] [] 0)
 (.seq (.cond (.t 20)
  .skip
  (.exit 2))
 (.seq (.block 3 (.seq (.region [⟨true, ⟨(some 21), .mov (.t 19), [], none⟩⟩,
   ⟨true, ⟨(some 22), .iaddr none 1 (.t 17) (.t 19), [], none⟩⟩,
   ⟨true, ⟨(some 23), .load none (.t 22), [1], none⟩⟩,
   ⟨true, ⟨(some 8), .mov (.t 21), [0, 0, 1, 2], none⟩⟩,
   ⟨true, ⟨(some 9), .mov (.t 23), [2, 3, 0, 1, 2, 3], none⟩⟩] [] 15728640)
 (.region [⟨true, ⟨(some 24), .mov (.t 7), [], none⟩⟩,
   ⟨true, ⟨(some 25), .mov (.t 8), [], none⟩⟩,
   ⟨true, ⟨(some 26), .iaddr (some 10) 1 (.t 6) (.t 25), [1], none⟩⟩,
   ⟨true, ⟨(some 27), .load none (.t 26), [2], none⟩⟩,
   ⟨true, ⟨(some 28), .mov (.t 9), [], none⟩⟩,
   ⟨true, ⟨(some 29), .bin .mul (.t 27) (.t 28), [3, 4], none⟩⟩,
   ⟨true, ⟨(some 30), .bin .add (.t 24) (.t 29), [0, 5], none⟩⟩,
   ⟨false, ⟨(some 7), .mov (.t 30), [6, 0, 1, 2, 3, 4, 5, 6], none⟩⟩] [] 2130707200)))
 (.region [⟨true, ⟨(some 31), .bin .add (.t 19) (.c (.int .i64 (.ofNat 1))), [], none⟩⟩,
   ⟨false, ⟨(some 19), .mov (.t 31), [0], none⟩⟩] [] 2147483648)))))))
 (.seq (.region [⟨true, ⟨(some 32), .mov (.t 7), [], none⟩⟩,
   ⟨true, ⟨(some 33), .bin .neq (.t 32) (.c (.int .i64 (.ofNat 0))), [0], none⟩⟩] [] 4295884992)
 (.cond (.t 33)
  (.seq (.region [⟨true, ⟨(some 4), .mov (.c (.bool false)), [], none⟩⟩] [] 8589948930)
  .ret)
  .skip))))))
 (.region [⟨true, ⟨(some 34), .bin .add (.t 13) (.c (.int .i64 (.ofNat 1))), [], none⟩⟩,
   ⟨false, ⟨(some 13), .mov (.t 34), [0], none⟩⟩] [] 25769803792)))))))
 (.seq (.region [⟨true, ⟨(some 35), .mov (.t 1), [], none⟩⟩,
   ⟨true, ⟨(some 36), .call .heap (.f 43) [(.t 35)], [0], none⟩⟩,
   ⟨true, ⟨(some 37), .len 1 (.t 36), [1], none⟩⟩,
   ⟨true, ⟨(some 38), .bin .gtr (.t 37) (.c (.int .i64 (.ofNat 0))), [2], none⟩⟩,
   ⟨true, ⟨(some 4), .mov (.t 38), [3, 1, 0, 1, 2, 3], none⟩⟩] [] 515396089858)
 .ret)))⟩
def f28 : FFn := ⟨25, [.tmp 4],
 (.seq (.region [⟨true, ⟨(some 4), .mov (.c (.int .i64 (.ofNat 0))), [], none⟩⟩] [] 16)
 (.seq (.region [⟨true, ⟨(some 9), .mov (.t 0), [], none⟩⟩,
   ⟨true, ⟨(some 10), .call .heap (.f 44) [(.t 9)], [0], none⟩⟩,
   ⟨true, ⟨(some 8), .mov (.t 10), [1], none⟩⟩,
   ⟨true, ⟨(some 11), .extract 0 (.t 8), [2], none⟩⟩,
   ⟨true, ⟨(some 12), .extract 1 (.t 8), [2], none⟩⟩,
   ⟨true, ⟨(some 13), .extract 2 (.t 8), [2], none⟩⟩,
   ⟨true, ⟨(some 5), .mov (.t 11), [3, 1, 0, 1, 2, 3], none⟩⟩,
   ⟨true, ⟨(some 6), .mov (.t 12), [4, 6, 0, 1, 2, 3, 4, 6], none⟩⟩,
   ⟨true, ⟨(some 7), .mov (.t 13), [5, 7, 0, 1, 2, 3, 4, 5, 6, 7], none⟩⟩] [] 16129)
 (.seq (.seq (.region [⟨true, ⟨(some 14), .mov (.t 7), [], none⟩⟩,
   ⟨true, ⟨(some 15), .bin .neq (.t 14) (.c (.int .i64 (.ofNat 0))), [0], none⟩⟩] [] 16384)
 (.cond (.t 15)
  (.seq (.region [⟨true, ⟨(some 16), .mov (.t 7), [], none⟩⟩,
    ⟨true, ⟨(some 4), .mov (.t 16), [0, 0], none⟩⟩] [] 98530)
  .ret)
  .skip))
 (.seq (.seq (.region [⟨true, ⟨(some 17), .mov (.t 1), [], none⟩⟩,
   ⟨true, ⟨(some 18), .mov (.t 5), [], none⟩⟩,
   ⟨true, ⟨(some 19), .bin .lss (.t 17) (.t 18), [0, 1], none⟩⟩,
   ⟨true, ⟨(some 20), .mov (.t 19), [2], none⟩⟩,
   ⟨true, ⟨(some 21), .mov (.t 1), [3], (some (20, false))⟩⟩,
   ⟨true, ⟨(some 22), .mov (.t 6), [3], (some (20, false))⟩⟩,
   ⟨true, ⟨(some 23), .bin .gtr (.t 21) (.t 22), [4, 5, 3], (some (20, false))⟩⟩,
   ⟨true, ⟨(some 24), .pick (.t 20) (.c (.bool true)) (.t 23), [3, 6], none⟩⟩] [] 16679154)
 (.cond (.t 24)
  (.seq (.region [⟨true, ⟨(some 4), .mov (.c (.int .i64 (.ofNat 2))), [], none⟩⟩] [] 16777216)
  .ret)
  .skip))
 (.seq (.region [⟨false, ⟨(some 4), .mov (.c (.int .i64 (.ofNat 0))), [], none⟩⟩] [] 16777216)
 .ret)))))⟩
def f29 : FFn := ⟨22, [.cell 2 (some 5)],
 (.seq (.region [⟨true, ⟨(some 2), .alloc .dyn (.agg [.nilsl, .nilsl, .nilsl, .nilsl, .nilsl]), [], none⟩⟩] [] 0)
 (.seq (.region [⟨true, ⟨(some 5), .mov (.t 0), [], none⟩⟩,
   ⟨true, ⟨(some 6), .bslice false .dyn 1 2 [(.str []), (.str [])] [(0, 1, (.c (.str [115, 116, 97, 114, 116]))), (1, 1, (.c (.str [102, 105, 110, 105, 115, 104])))], [], none⟩⟩,
   ⟨true, ⟨(some 7), .call .heap (.f 45) [(.t 5), (.t 6)], [0, 1], none⟩⟩,
   ⟨true, ⟨(some 8), .build [.nilsl, .nilsl, .nilsl, .nilsl, .nilsl] [(0, 1, (.t 7))], [2], none⟩⟩,
   ⟨true, ⟨(some 3), .alloc .dyn (.agg [.nilsl, .nilsl, .nilsl, .nilsl, .nilsl]), [], none⟩⟩,
   ⟨false, ⟨none, .store 5 (.t 3) (.t 8), [4, 3, 2, 0, 1, 2, 3, 4], none⟩⟩] [] 480)
 (.seq (.seq (.region [⟨true, ⟨(some 9), .mov (.t 0), [], none⟩⟩,
   ⟨true, ⟨(some 10), .mov (.c (.int .i64 (.ofNat 0))), [], none⟩⟩] [] 1)
 (.block 0 (.loop (.seq (.region [⟨true, ⟨(some 11), .bin .lss (.t 10) (.t 9), [], none⟩⟩] [] 0)
 (.seq (.cond (.t 11)
  .skip
  (.exit 0))
 (.seq (.block 1 (.seq (.region [⟨true, ⟨(some 12), .mov (.t 10), [], none⟩⟩,
   ⟨true, ⟨(some 4), .mov (.t 12), [0, 0], none⟩⟩] [] 6144)
 (.region [⟨true, ⟨(some 13), .faddr 1 (.t 3), [], none⟩⟩,
   ⟨true, ⟨(some 14), .load none (.t 13), [0], none⟩⟩,
   ⟨true, ⟨(some 15), .mov (.t 4), [], none⟩⟩,
   ⟨true, ⟨(some 16), .call .pure (.f 46) [(.c (.str [109, 97, 99, 104, 105, 110, 101])), (.t 15)], [2], none⟩⟩,
   ⟨true, ⟨(some 17), .bslice false .dyn 5 1 [(.str []), .nilsl, (.int .i64 (.ofNat 0)), .nilsl, .nilsl] [(0, 5, (.t 16))], [3], none⟩⟩,
   ⟨true, ⟨(some 18), .append .dyn 5 96 (.t 14) (.t 17), [1, 4, 3], none⟩⟩,
   ⟨true, ⟨(some 19), .faddr 1 (.t 3), [0, 1, 2, 3, 4, 5], none⟩⟩,
   ⟨false, ⟨none, .store 1 (.t 19) (.t 18), [6, 5, 5, 0, 1, 2, 3, 4, 5], none⟩⟩] [] 1040400)))
 (.region [⟨true, ⟨(some 20), .bin .add (.t 10) (.c (.int .i64 (.ofNat 1))), [], none⟩⟩,
   ⟨false, ⟨(some 10), .mov (.t 20), [0], none⟩⟩] [] 1048576)))))))
 (.seq (.region [⟨true, ⟨(some 21), .load (some 5) (.t 3), [], none⟩⟩,
   ⟨false, ⟨none, .store 5 (.t 2) (.t 21), [0, 0], none⟩⟩] [] 2098696)
 .ret))))⟩
def f30 : FFn := ⟨63, [.cell 4 (some 5)],
 (.seq (.region [⟨true, ⟨(some 4), .alloc .dyn (.agg [(.str []), .nilsl, (.int .i64 (.ofNat 0)), .nilsl, .nilsl]), [], none⟩⟩] [] 0)
 (.seq (.region [⟨true, ⟨(some 7), .mov (.t 0), [], none⟩⟩,
   ⟨true, ⟨(some 8), .bin .mul (.c (.int .i64 (.ofNat 2))) (.t 7), [0], none⟩⟩,
   ⟨true, ⟨(some 9), .bin .add (.t 8) (.c (.int .i64 (.ofNat 1))), [1], none⟩⟩,
   ⟨true, ⟨(some 10), .mov (.t 0), [], none⟩⟩,
   ⟨true, ⟨(some 11), .bin .mul (.c (.int .i64 (.ofNat 2))) (.t 10), [3], none⟩⟩,
   ⟨true, ⟨(some 12), .bin .add (.t 11) (.c (.int .i64 (.ofNat 2))), [4], none⟩⟩,
   ⟨true, ⟨(some 13), .bslice false .dyn 1 2 [(.int .i64 (.ofNat 0)), (.int .i64 (.ofNat 0))] [(0, 1, (.t 9)), (1, 1, (.t 12))], [2, 5], none⟩⟩,
   ⟨true, ⟨(some 14), .mov (.t 1), [], none⟩⟩,
   ⟨true, ⟨(some 15), .bin .add (.t 14) (.c (.int .i64 (.ofNat 1))), [7], none⟩⟩,
   ⟨true, ⟨(some 16), .build [.nilsl, (.int .i64 (.ofNat 0)), .nilsl, .nilsl] [(0, 1, (.t 13)), (1, 1, (.t 15))], [6, 8], none⟩⟩,
   ⟨true, ⟨(some 5), .alloc .dyn (.agg [.nilsl, (.int .i64 (.ofNat 0)), .nilsl, .nilsl]), [], none⟩⟩,
   ⟨false, ⟨none, .store 4 (.t 5) (.t 16), [10, 9, 0, 1, 2, 3, 4, 5, 6, 7, 8, 9, 10], none⟩⟩] [] 130944)
 (.seq (.seq (.region [⟨true, ⟨(some 17), .faddr 1 (.t 5), [], none⟩⟩,
   ⟨true, ⟨(some 18), .load none (.t 17), [0], none⟩⟩,
   ⟨true, ⟨(some 19), .mov (.c (.int .i64 (.ofNat 0))), [], none⟩⟩] [] 131072)
 (.block 0 (.loop (.seq (.region [⟨true, ⟨(some 20), .bin .lss (.t 19) (.t 18), [], none⟩⟩] [] 0)
 (.seq (.cond (.t 20)
  .skip
  (.exit 0))
 (.seq (.block 1 (.seq (.region [⟨true, ⟨(some 21), .mov (.t 19), [], none⟩⟩,
   ⟨true, ⟨(some 6), .mov (.t 21), [0, 0], none⟩⟩] [] 3145728)
 (.seq (.region [⟨true, ⟨(some 22), .faddr 2 (.t 5), [], none⟩⟩,
   ⟨true, ⟨(some 23), .load none (.t 22), [0], none⟩⟩,
   ⟨true, ⟨(some 24), .mov (.t 6), [], none⟩⟩,
   ⟨true, ⟨(some 25), .bslice false .dyn 1 1 [(.int .i64 (.ofNat 0))] [(0, 1, (.t 24))], [2], none⟩⟩,
   ⟨true, ⟨(some 26), .append .dyn 1 8 (.t 23) (.t 25), [1, 3], none⟩⟩,
   ⟨true, ⟨(some 27), .faddr 2 (.t 5), [0, 1, 2, 3, 4], none⟩⟩,
   ⟨false, ⟨none, .store 1 (.t 27) (.t 26), [5, 4, 4, 0, 1, 2, 3, 4], none⟩⟩] [] 264241152)
 (.seq (.seq (.region [⟨true, ⟨(some 28), .mov (.t 6), [], none⟩⟩,
   ⟨true, ⟨(some 29), .mov (.t 1), [], none⟩⟩,
   ⟨true, ⟨(some 30), .bin .lss (.t 28) (.t 29), [0, 1], none⟩⟩] [] 805306368)
 (.cond (.t 30)
  (.region [⟨true, ⟨(some 31), .faddr 3 (.t 5), [], none⟩⟩,
    ⟨true, ⟨(some 32), .load none (.t 31), [0], none⟩⟩,
    ⟨true, ⟨(some 33), .mov (.t 6), [], none⟩⟩,
    ⟨true, ⟨(some 34), .mov (.t 0), [], none⟩⟩,
    ⟨true, ⟨(some 35), .bin .mul (.c (.int .i64 (.ofNat 2))) (.t 34), [3], none⟩⟩,
    ⟨true, ⟨(some 36), .bin .add (.t 35) (.c (.int .i64 (.ofNat 1))), [4], none⟩⟩,
    ⟨true, ⟨(some 37), .mov (.t 6), [], none⟩⟩,
    ⟨true, ⟨(some 38), .bin .add (.t 37) (.c (.int .i64 (.ofNat 1))), [6], none⟩⟩,
    ⟨true, ⟨(some 39), .build [(.int .i64 (.ofNat 0)), (.int .i64 (.ofNat 0)), (.int .i64 (.ofNat 0))] [(0, 1, (.t 33)), (1, 1, (.t 36)), (2, 1, (.t 38))], [2, 5, 7], none⟩⟩,
    ⟨true, ⟨(some 40), .bslice false .dyn 3 1 [(.int .i64 (.ofNat 0)), (.int .i64 (.ofNat 0)), (.int .i64 (.ofNat 0))] [(0, 3, (.t 39))], [8], none⟩⟩,
    ⟨true, ⟨(some 41), .append .dyn 3 24 (.t 32) (.t 40), [1, 9], none⟩⟩,
    ⟨true, ⟨(some 42), .faddr 3 (.t 5), [0, 1, 2, 3, 4, 5, 6, 7, 8, 9, 10], none⟩⟩,
    ⟨false, ⟨none, .store 1 (.t 42) (.t 41), [11, 10, 10, 0, 1, 2, 3, 4, 5, 6, 7, 8, 9, 10], none⟩⟩] [] 8795019280384)
  .skip))
 (.seq (.region [⟨true, ⟨(some 43), .mov (.t 6), [], none⟩⟩,
   ⟨true, ⟨(some 44), .bin .gtr (.t 43) (.c (.int .i64 (.ofNat 0))), [0], none⟩⟩] [] 8797166764032)
 (.cond (.t 44)
  (.region [⟨true, ⟨(some 45), .faddr 3 (.t 5), [], none⟩⟩,
    ⟨true, ⟨(some 46), .load none (.t 45), [0], none⟩⟩,
    ⟨true, ⟨(some 47), .mov (.t 6), [], none⟩⟩,
    ⟨true, ⟨(some 48), .mov (.t 0), [], none⟩⟩,
    ⟨true, ⟨(some 49), .bin .mul (.c (.int .i64 (.ofNat 2))) (.t 48), [3], none⟩⟩,
    ⟨true, ⟨(some 50), .bin .add (.t 49) (.c (.int .i64 (.ofNat 2))), [4], none⟩⟩,
    ⟨true, ⟨(some 51), .mov (.t 6), [], none⟩⟩,
    ⟨true, ⟨(some 52), .bin .sub (.t 51) (.c (.int .i64 (.ofNat 1))), [6], none⟩⟩,
    ⟨true, ⟨(some 53), .build [(.int .i64 (.ofNat 0)), (.int .i64 (.ofNat 0)), (.int .i64 (.ofNat 0))] [(0, 1, (.t 47)), (1, 1, (.t 50)), (2, 1, (.t 52))], [2, 5, 7], none⟩⟩,
    ⟨true, ⟨(some 54), .bslice false .dyn 3 1 [(.int .i64 (.ofNat 0)), (.int .i64 (.ofNat 0)), (.int .i64 (.ofNat 0))] [(0, 3, (.t 53))], [8], none⟩⟩,
    ⟨true, ⟨(some 55), .append .dyn 3 24 (.t 46) (.t 54), [1, 9], none⟩⟩,
    ⟨true, ⟨(some 56), .faddr 3 (.t 5), [0, 1, 2, 3, 4, 5, 6, 7, 8, 9, 10], none⟩⟩,
    ⟨false, ⟨none, .store 1 (.t 56) (.t 55), [11, 10, 10, 0, 1, 2, 3, 4, 5, 6, 7, 8, 9, 10], none⟩⟩] [] 144097595889811520)
  .skip))))))
 (.region [⟨true, ⟨(some 57), .bin .add (.t 19) (.c (.int .i64 (.ofNat 1))), [], none⟩⟩,
   ⟨false, ⟨(some 19), .mov (.t 57), [0], none⟩⟩] [] 144132780261900352)))))))
 (.seq (.region [⟨true, ⟨(some 58), .mov (.t 0), [], none⟩⟩,
   ⟨true, ⟨(some 59), .call .pure (.f 47) [(.t 58)], [0], none⟩⟩,
   ⟨true, ⟨(some 60), .bin .add (.c (.str [98, 117, 102, 102, 101, 114])) (.t 59), [1], none⟩⟩,
   ⟨true, ⟨(some 61), .load (some 4) (.t 5), [], none⟩⟩,
   ⟨true, ⟨(some 62), .build [(.str []), .nilsl, (.int .i64 (.ofNat 0)), .nilsl, .nilsl] [(0, 1, (.t 60)), (1, 4, (.t 61))], [2, 3], none⟩⟩,
   ⟨false, ⟨none, .store 5 (.t 4) (.t 62), [4, 1, 0, 1, 2, 3, 4], none⟩⟩] [] 8935141660703850531)
 .ret))))⟩
def f31 : FFn := ⟨130, [.cell 2 (some 5)],
 (.seq (.region [⟨true, ⟨(some 2), .alloc .dyn (.agg [.nilsl, .nilsl, .nilsl, .nilsl, .nilsl]), [], none⟩⟩] [] 0)
 (.seq (.region [⟨true, ⟨(some 14), .mov (.t 0), [], none⟩⟩,
   ⟨true, ⟨(some 15), .bslice false .dyn 1 3 [(.str []), (.str []), (.str [])] [(0, 1, (.c (.str [108, 101, 102, 116]))), (1, 1, (.c (.str [114, 105, 103, 104, 116]))), (2, 1, (.c (.str [112, 117, 116])))], [], none⟩⟩,
   ⟨true, ⟨(some 16), .call .heap (.f 45) [(.t 14), (.t 15)], [0, 1], none⟩⟩,
   ⟨true, ⟨(some 17), .build [.nilsl, .nilsl, .nilsl, .nilsl, .nilsl] [(0, 1, (.t 16))], [2], none⟩⟩,
   ⟨true, ⟨(some 3), .alloc .dyn (.agg [.nilsl, .nilsl, .nilsl, .nilsl, .nilsl]), [], none⟩⟩,
   ⟨false, ⟨none, .store 5 (.t 3) (.t 17), [4, 3, 2, 0, 1, 2, 3, 4], none⟩⟩] [] 245760)
 (.seq (.seq (.region [⟨true, ⟨(some 18), .mov (.t 0), [], none⟩⟩,
   ⟨true, ⟨(some 19), .mov (.c (.int .i64 (.ofNat 0))), [], none⟩⟩] [] 0)
 (.block 0 (.loop (.seq (.region [⟨true, ⟨(some 20), .bin .lss (.t 19) (.t 18), [], none⟩⟩] [] 0)
 (.seq (.cond (.t 20)
  .skip
  (.exit 0))
 (.seq (.block 1 (.seq (.region [⟨true, ⟨(some 21), .mov (.t 19), [], none⟩⟩,
   ⟨true, ⟨(some 4), .mov (.t 21), [0, 0], none⟩⟩] [] 3145728)
 (.seq (.region [⟨true, ⟨(some 22), .mov (.t 4), [], none⟩⟩,
   ⟨true, ⟨(some 23), .bin .mul (.c (.int .i64 (.ofNat 3))) (.t 22), [0], none⟩⟩,
   ⟨true, ⟨(some 24), .mov (.t 4), [], none⟩⟩,
   ⟨true, ⟨(some 25), .bin .mul (.c (.int .i64 (.ofNat 3))) (.t 24), [2], none⟩⟩,
   ⟨true, ⟨(some 26), .bin .add (.t 25) (.c (.int .i64 (.ofNat 1))), [3], none⟩⟩,
   ⟨true, ⟨(some 27), .mov (.t 4), [], none⟩⟩,
   ⟨true, ⟨(some 28), .bin .mul (.c (.int .i64 (.ofNat 3))) (.t 27), [5], none⟩⟩,
   ⟨true, ⟨(some 29), .bin .add (.t 28) (.c (.int .i64 (.ofNat 2))), [6], none⟩⟩,
   ⟨true, ⟨(some 30), .bslice false .dyn 1 3 [(.int .i64 (.ofNat 0)), (.int .i64 (.ofNat 0)), (.int .i64 (.ofNat 0))] [(0, 1, (.t 23)), (1, 1, (.t 26)), (2, 1, (.t 29))], [1, 4, 7], none⟩⟩,
   ⟨true, ⟨(some 31), .bslice false .dyn 1 1 [(.int .i64 (.ofNat 0))] [(0, 1, (.c (.int .i64 (.ofNat 0))))], [], none⟩⟩,
   ⟨true, ⟨(some 32), .build [.nilsl, (.int .i64 (.ofNat 0)), .nilsl, .nilsl] [(0, 1, (.t 30)), (1, 1, (.c (.int .i64 (.ofNat 3)))), (2, 1, (.t 31))], [8, 9], none⟩⟩,
   ⟨true, ⟨(some 5), .alloc .dyn (.agg [.nilsl, (.int .i64 (.ofNat 0)), .nilsl, .nilsl]), [], none⟩⟩,
   ⟨false, ⟨none, .store 4 (.t 5) (.t 32), [11, 10, 0, 1, 2, 3, 4, 5, 6, 7, 8, 9, 10, 11], none⟩⟩] [] 8585740288)
 (.seq (.seq (.region [⟨true, ⟨(some 33), .mov (.c (.int .i64 (.ofNat 0))), [], none⟩⟩] [] 0)
 (.block 2 (.loop (.seq (.region [⟨true, ⟨(some 34), .bin .lss (.t 33) (.c (.int .i64 (.ofNat 3))), [], none⟩⟩] [] 0)
 (.seq (.cond (.t 34)
  .skip
  (.exit 2))
 (.seq (.block 3 (.seq (.region [⟨true, ⟨(some 35), .mov (.t 33), [], none⟩⟩,
   ⟨true, ⟨(some 6), .mov (.t 35), [0, 0], none⟩⟩] [] 51539607552)
 (.region [⟨true, ⟨(some 36), .faddr 3 (.t 5), [], none⟩⟩,
   ⟨true, ⟨(some 37), .load none (.t 36), [0], none⟩⟩,
   ⟨true, ⟨(some 38), .mov (.t 6), [], none⟩⟩,
   ⟨true, ⟨(some 39), .mov (.t 4), [], none⟩⟩,
   ⟨true, ⟨(some 40), .bin .mul (.c (.int .i64 (.ofNat 3))) (.t 39), [3], none⟩⟩,
   ⟨true, ⟨(some 41), .mov (.t 6), [], none⟩⟩,
   ⟨true, ⟨(some 42), .bin .add (.t 40) (.t 41), [4, 5], none⟩⟩,
   ⟨true, ⟨(some 43), .mov (.t 6), [], none⟩⟩,
   ⟨true, ⟨(some 44), .bin .add (.t 43) (.c (.int .i64 (.ofNat 1))), [7], none⟩⟩,
   ⟨true, ⟨(some 45), .bin .rem (.t 44) (.c (.int .i64 (.ofNat 3))), [8], none⟩⟩,
   ⟨true, ⟨(some 46), .build [(.int .i64 (.ofNat 0)), (.int .i64 (.ofNat 0)), (.int .i64 (.ofNat 0))] [(0, 1, (.t 38)), (1, 1, (.t 42)), (2, 1, (.t 45))], [2, 6, 9], none⟩⟩,
   ⟨true, ⟨(some 47), .bslice false .dyn 3 1 [(.int .i64 (.ofNat 0)), (.int .i64 (.ofNat 0)), (.int .i64 (.ofNat 0))] [(0, 3, (.t 46))], [10], none⟩⟩,
   ⟨true, ⟨(some 48), .append .dyn 3 24 (.t 37) (.t 47), [1, 11], none⟩⟩,
   ⟨true, ⟨(some 49), .faddr 3 (.t 5), [0, 1, 2, 3, 4, 5, 6, 7, 8, 9, 10, 11, 12], none⟩⟩,
   ⟨false, ⟨none, .store 1 (.t 49) (.t 48), [13, 12, 12, 0, 1, 2, 3, 4, 5, 6, 7, 8, 9, 10, 11, 12], none⟩⟩] [] 1125831187365952)))
 (.region [⟨true, ⟨(some 50), .bin .add (.t 33) (.c (.int .i64 (.ofNat 1))), [], none⟩⟩,
   ⟨false, ⟨(some 33), .mov (.t 50), [0], none⟩⟩] [] 1125899906842624)))))))
 (.region [⟨true, ⟨(some 51), .faddr 1 (.t 3), [], none⟩⟩,
   ⟨true, ⟨(some 52), .load none (.t 51), [0], none⟩⟩,
   ⟨true, ⟨(some 53), .mov (.t 4), [], none⟩⟩,
   ⟨true, ⟨(some 54), .call .pure (.f 47) [(.t 53)], [2], none⟩⟩,
   ⟨true, ⟨(some 55), .bin .add (.c (.str [112, 104, 105, 108, 111, 115, 111, 112, 104, 101, 114])) (.t 54), [3], none⟩⟩,
   ⟨true, ⟨(some 56), .load (some 4) (.t 5), [], none⟩⟩,
   ⟨true, ⟨(some 57), .build [(.str []), .nilsl, (.int .i64 (.ofNat 0)), .nilsl, .nilsl] [(0, 1, (.t 55)), (1, 4, (.t 56))], [4, 5], none⟩⟩,
   ⟨true, ⟨(some 58), .bslice false .dyn 5 1 [(.str []), .nilsl, (.int .i64 (.ofNat 0)), .nilsl, .nilsl] [(0, 5, (.t 57))], [6], none⟩⟩,
   ⟨true, ⟨(some 59), .append .dyn 5 96 (.t 52) (.t 58), [1, 7, 3], none⟩⟩,
   ⟨true, ⟨(some 60), .faddr 1 (.t 3), [0, 1, 2, 3, 4, 5, 6, 7, 8], none⟩⟩,
   ⟨false, ⟨none, .store 1 (.t 60) (.t 59), [9, 8, 8, 0, 1, 2, 3, 4, 5, 6, 7, 8], none⟩⟩] [] 2303591217989943344)))))
 (.region [⟨true, ⟨(some 61), .bin .add (.t 19) (.c (.int .i64 (.ofNat 1))), [], none⟩⟩,
   ⟨false, ⟨(some 19), .mov (.t 61), [0], none⟩⟩] [] 2305843009213693952)))))))
 (.seq (.seq (.region [⟨true, ⟨(some 62), .mov (.t 0), [], none⟩⟩,
   ⟨true, ⟨(some 63), .mov (.c (.int .i64 (.ofNat 0))), [], none⟩⟩] [] 786432)
 (.block 4 (.loop (.seq (.region [⟨true, ⟨(some 64), .bin .lss (.t 63) (.t 62), [], none⟩⟩] [] 0)
 (.seq (.cond (.t 64)
  .skip
  (.exit 4))
 (.seq (.block 5 (.seq (.region [⟨true, ⟨(some 65), .mov (.t 63), [], none⟩⟩,
   ⟨true, ⟨(some 7), .mov (.t 65), [0, 0], none⟩⟩] [] 55340232221128654848)
 (.seq (.region [⟨true, ⟨(some 66), .mov (.t 7), [], none⟩⟩,
   ⟨true, ⟨(some 67), .mov (.t 0), [], none⟩⟩,
   ⟨true, ⟨(some 68), .bin .add (.t 66) (.t 67), [0, 1], none⟩⟩,
   ⟨true, ⟨(some 69), .bin .sub (.t 68) (.c (.int .i64 (.ofNat 1))), [2], none⟩⟩,
   ⟨true, ⟨(some 70), .mov (.t 0), [], none⟩⟩,
   ⟨true, ⟨(some 71), .bin .rem (.t 69) (.t 70), [3, 4], none⟩⟩,
   ⟨true, ⟨(some 8), .mov (.t 71), [5, 0, 1, 2, 3, 4, 5], none⟩⟩] [] 4648579506574807007232)
 (.seq (.region [⟨true, ⟨(some 72), .mov (.t 7), [], none⟩⟩,
   ⟨true, ⟨(some 73), .bin .mul (.c (.int .i64 (.ofNat 3))) (.t 72), [0], none⟩⟩,
   ⟨true, ⟨(some 74), .mov (.t 7), [], none⟩⟩,
   ⟨true, ⟨(some 75), .bin .mul (.c (.int .i64 (.ofNat 3))) (.t 74), [2], none⟩⟩,
   ⟨true, ⟨(some 76), .bin .add (.t 75) (.c (.int .i64 (.ofNat 2))), [3], none⟩⟩,
   ⟨true, ⟨(some 77), .mov (.t 8), [], none⟩⟩,
   ⟨true, ⟨(some 78), .bin .mul (.c (.int .i64 (.ofNat 3))) (.t 77), [5], none⟩⟩,
   ⟨true, ⟨(some 79), .bin .add (.t 78) (.c (.int .i64 (.ofNat 1))), [6], none⟩⟩,
   ⟨true, ⟨(some 80), .mov (.t 8), [], none⟩⟩,
   ⟨true, ⟨(some 81), .bin .mul (.c (.int .i64 (.ofNat 3))) (.t 80), [8], none⟩⟩,
   ⟨true, ⟨(some 82), .bin .add (.t 81) (.c (.int .i64 (.ofNat 2))), [9], none⟩⟩,
   ⟨true, ⟨(some 83), .bslice false .dyn 1 4 [(.int .i64 (.ofNat 0)), (.int .i64 (.ofNat 0)), (.int .i64 (.ofNat 0)), (.int .i64 (.ofNat 0))] [(0, 1, (.t 73)), (1, 1, (.t 76)), (2, 1, (.t 79)), (3, 1, (.t 82))], [1, 4, 7, 10], none⟩⟩,
   ⟨true, ⟨(some 84), .bslice false .dyn 1 1 [(.int .i64 (.ofNat 0))] [(0, 1, (.c (.int .i64 (.ofNat 0))))], [], none⟩⟩,
   ⟨true, ⟨(some 85), .build [.nilsl, (.int .i64 (.ofNat 0)), .nilsl, .nilsl] [(0, 1, (.t 83)), (1, 1, (.c (.int .i64 (.ofNat 2)))), (2, 1, (.t 84))], [11, 12], none⟩⟩,
   ⟨true, ⟨(some 9), .alloc .dyn (.agg [.nilsl, (.int .i64 (.ofNat 0)), .nilsl, .nilsl]), [], none⟩⟩,
   ⟨false, ⟨none, .store 4 (.t 9) (.t 85), [14, 13, 0, 1, 2, 3, 4, 5, 6, 7, 8, 9, 10, 11, 12, 13, 14], none⟩⟩] [] 77366530088853397535981824)
 (.seq (.region [⟨true, ⟨(some 86), .faddr 0 (.t 9), [], none⟩⟩,
   ⟨true, ⟨(some 87), .load none (.t 86), [0], none⟩⟩,
   ⟨true, ⟨(some 88), .call .heap (.f 36) [(.t 87)], [1], none⟩⟩] [] 541598767187353870268366848)
 (.seq (.seq (.region [⟨true, ⟨(some 89), .mov (.c (.int .i64 (.ofNat 0))), [], none⟩⟩] [] 0)
 (.block 6 (.loop (.seq (.region [⟨true, ⟨(some 90), .bin .lss (.t 89) (.c (.int .i64 (.ofNat 2))), [], none⟩⟩] [] 0)
 (.seq (.cond (.t 90)
  .skip
  (.exit 6))
 (.seq (.block 7 (.seq (.region [⟨true, ⟨(some 91), .mov (.t 89), [], none⟩⟩,
   ⟨true, ⟨(some 10), .mov (.t 91), [0, 0], none⟩⟩] [] 3713820117856140824697372672)
 (.seq (.region [⟨true, ⟨(some 92), .faddr 0 (.t 9), [], none⟩⟩,
   ⟨true, ⟨(some 93), .load none (.t 92), [0], none⟩⟩,
   ⟨true, ⟨(some 94), .len 1 (.t 93), [1], none⟩⟩,
   ⟨true, ⟨(some 95), .mov (.c (.int .i64 (.ofNat 0))), [], none⟩⟩] [] 4951760157141521099596496896)
 (.block 8 (.loop (.seq (.region [⟨true, ⟨(some 96), .bin .lss (.t 95) (.t 94), [], none⟩⟩] [] 0)
 (.seq (.cond (.t 96)
  .skip
  (.exit 8))
 (.seq (.block 9 (.seq (.region [⟨true, ⟨(some 97), .iaddr none 1 (.t 93) (.t 95), [], none⟩⟩,
   ⟨true, ⟨(some 98), .load none (.t 97), [0], none⟩⟩,
   ⟨true, ⟨(some 12), .mov (.t 98), [1, 0, 1], none⟩⟩] [] 554597137599850363154807652352)
 (.seq (.region [⟨true, ⟨(some 99), .mov (.t 12), [], none⟩⟩,
   ⟨true, ⟨(some 100), .bin .rem (.t 99) (.c (.int .i64 (.ofNat 3))), [0], none⟩⟩,
   ⟨true, ⟨(some 101), .bin .eql (.t 100) (.c (.int .i64 (.ofNat 2))), [1], none⟩⟩,
   ⟨true, ⟨(some 13), .mov (.t 101), [2, 0, 1, 2], none⟩⟩] [] 4436777100798802905238461218816)
 (.seq (.region [⟨true, ⟨(some 102), .mov (.t 13), [], none⟩⟩,
   ⟨true, ⟨(some 103), .mov (.t 10), [], none⟩⟩,
   ⟨true, ⟨(some 104), .bin .eql (.t 103) (.c (.int .i64 (.ofNat 1))), [1], none⟩⟩,
   ⟨true, ⟨(some 105), .eq (.flat false [.b]) false (.t 102) (.t 104), [0, 2], none⟩⟩] [] 35494216806390423241907689758720)
 (.cond (.t 105)
  (.region [⟨true, ⟨(some 106), .faddr 3 (.t 9), [], none⟩⟩,
    ⟨true, ⟨(some 107), .load none (.t 106), [0], none⟩⟩,
    ⟨true, ⟨(some 108), .mov (.t 10), [], none⟩⟩,
    ⟨true, ⟨(some 109), .mov (.t 12), [], none⟩⟩,
    ⟨true, ⟨(some 110), .mov (.t 10), [], none⟩⟩,
    ⟨true, ⟨(some 111), .bin .sub (.c (.int .i64 (.ofNat 1))) (.t 110), [4], none⟩⟩,
    ⟨true, ⟨(some 112), .build [(.int .i64 (.ofNat 0)), (.int .i64 (.ofNat 0)), (.int .i64 (.ofNat 0))] [(0, 1, (.t 108)), (1, 1, (.t 109)), (2, 1, (.t 111))], [2, 3, 5], none⟩⟩,
    ⟨true, ⟨(some 113), .bslice false .dyn 3 1 [(.int .i64 (.ofNat 0)), (.int .i64 (.ofNat 0)), (.int .i64 (.ofNat 0))] [(0, 3, (.t 112))], [6], none⟩⟩,
    ⟨true, ⟨(some 114), .append .dyn 3 24 (.t 107) (.t 113), [1, 7], none⟩⟩,
    ⟨true, ⟨(some 115), .faddr 3 (.t 9), [0, 1, 2, 3, 4, 5, 6, 7, 8], none⟩⟩,
    ⟨false, ⟨none, .store 1 (.t 115) (.t 114), [9, 8, 8, 0, 1, 2, 3, 4, 5, 6, 7, 8], none⟩⟩] [] 83036184917349938715640046764953600)
  .skip)))))
 (.region [⟨true, ⟨(some 116), .bin .add (.t 95) (.c (.int .i64 (.ofNat 1))), [], none⟩⟩,
   ⟨false, ⟨(some 95), .mov (.t 116), [0], none⟩⟩] [] 83117314555764545397335835770097664)))))))))
 (.region [⟨true, ⟨(some 117), .bin .add (.t 89) (.c (.int .i64 (.ofNat 1))), [], none⟩⟩,
   ⟨false, ⟨(some 89), .mov (.t 117), [0], none⟩⟩] [] 166153568797756684094271276886000640)))))))
 (.region [⟨true, ⟨(some 118), .faddr 1 (.t 3), [], none⟩⟩,
   ⟨true, ⟨(some 119), .load none (.t 118), [0], none⟩⟩,
   ⟨true, ⟨(some 120), .mov (.t 7), [], none⟩⟩,
   ⟨true, ⟨(some 121), .call .pure (.f 47) [(.t 120)], [2], none⟩⟩,
   ⟨true, ⟨(some 122), .bin .add (.c (.str [102, 111, 114, 107])) (.t 121), [3], none⟩⟩,
   ⟨true, ⟨(some 123), .load (some 4) (.t 9), [], none⟩⟩,
   ⟨true, ⟨(some 124), .build [(.str []), .nilsl, (.int .i64 (.ofNat 0)), .nilsl, .nilsl] [(0, 1, (.t 122)), (1, 4, (.t 123))], [4, 5], none⟩⟩,
   ⟨true, ⟨(some 125), .bslice false .dyn 5 1 [(.str []), .nilsl, (.int .i64 (.ofNat 0)), .nilsl, .nilsl] [(0, 5, (.t 124))], [6], none⟩⟩,
   ⟨true, ⟨(some 126), .append .dyn 5 96 (.t 119) (.t 125), [1, 7, 3], none⟩⟩,
   ⟨true, ⟨(some 127), .faddr 1 (.t 3), [0, 1, 2, 3, 4, 5, 6, 7, 8], none⟩⟩,
   ⟨false, ⟨none, .store 1 (.t 127) (.t 126), [9, 8, 8, 0, 1, 2, 3, 4, 5, 6, 7, 8], none⟩⟩] [] 339950059922611204514791345804147688064)))))))
 (.region [⟨true, ⟨(some 128), .bin .add (.t 63) (.c (.int .i64 (.ofNat 1))), [], none⟩⟩,
   ⟨false, ⟨(some 63), .mov (.t 128), [0], none⟩⟩] [] 340282366920938463463374607431768211456)))))))
 (.seq (.region [⟨true, ⟨(some 129), .load (some 5) (.t 3), [], none⟩⟩,
   ⟨false, ⟨none, .store 5 (.t 2) (.t 129), [0, 0], none⟩⟩] [] 680564733841876926940584272918818586633)
 .ret)))))⟩
def f32 : FFn := ⟨34, [.cell 2 (some 5)],
 (.seq (.region [⟨true, ⟨(some 2), .alloc .dyn (.agg [.nilsl, .nilsl, .nilsl, .nilsl, .nilsl]), [], none⟩⟩] [] 0)
 (.seq (.region [⟨true, ⟨(some 6), .mov (.t 0), [], none⟩⟩,
   ⟨true, ⟨(some 7), .bslice false .dyn 1 2 [(.str []), (.str [])] [(0, 1, (.c (.str [101, 110, 116, 101, 114]))), (1, 1, (.c (.str [108, 101, 97, 118, 101])))], [], none⟩⟩,
   ⟨true, ⟨(some 8), .call .heap (.f 45) [(.t 6), (.t 7)], [0, 1], none⟩⟩,
   ⟨true, ⟨(some 9), .build [.nilsl, .nilsl, .nilsl, .nilsl, .nilsl] [(0, 1, (.t 8))], [2], none⟩⟩,
   ⟨true, ⟨(some 3), .alloc .dyn (.agg [.nilsl, .nilsl, .nilsl, .nilsl, .nilsl]), [], none⟩⟩,
   ⟨false, ⟨none, .store 5 (.t 3) (.t 9), [4, 3, 2, 0, 1, 2, 3, 4], none⟩⟩] [] 960)
 (.seq (.region [⟨true, ⟨(some 10), .build [(.str []), .nilsl, (.int .i64 (.ofNat 0))] [(0, 1, (.c (.str [122, 111, 110, 101]))), (2, 1, (.c (.int .i64 (.ofNat 1))))], [], none⟩⟩,
   ⟨true, ⟨(some 4), .alloc .dyn (.agg [(.str []), .nilsl, (.int .i64 (.ofNat 0))]), [], none⟩⟩,
   ⟨false, ⟨none, .store 3 (.t 4) (.t 10), [1, 0, 0, 1], none⟩⟩] [] 1024)
 (.seq (.seq (.region [⟨true, ⟨(some 11), .mov (.t 0), [], none⟩⟩,
   ⟨true, ⟨(some 12), .mov (.c (.int .i64 (.ofNat 0))), [], none⟩⟩] [] 1)
 (.block 0 (.loop (.seq (.region [⟨true, ⟨(some 13), .bin .lss (.t 12) (.t 11), [], none⟩⟩] [] 0)
 (.seq (.cond (.t 13)
  .skip
  (.exit 0))
 (.seq (.block 1 (.seq (.region [⟨true, ⟨(some 14), .mov (.t 12), [], none⟩⟩,
   ⟨true, ⟨(some 5), .mov (.t 14), [0, 0], none⟩⟩] [] 24576)
 (.seq (.region [⟨true, ⟨(some 15), .faddr 1 (.t 3), [], none⟩⟩,
   ⟨true, ⟨(some 16), .load none (.t 15), [0], none⟩⟩,
   ⟨true, ⟨(some 17), .mov (.t 5), [], none⟩⟩,
   ⟨true, ⟨(some 18), .call .pure (.f 46) [(.c (.str [118, 101, 104, 105, 99, 108, 101])), (.t 17)], [2], none⟩⟩,
   ⟨true, ⟨(some 19), .bslice false .dyn 5 1 [(.str []), .nilsl, (.int .i64 (.ofNat 0)), .nilsl, .nilsl] [(0, 5, (.t 18))], [3], none⟩⟩,
   ⟨true, ⟨(some 20), .append .dyn 5 96 (.t 16) (.t 19), [1, 4, 3], none⟩⟩,
   ⟨true, ⟨(some 21), .faddr 1 (.t 3), [0, 1, 2, 3, 4, 5], none⟩⟩,
   ⟨false, ⟨none, .store 1 (.t 21) (.t 20), [6, 5, 5, 0, 1, 2, 3, 4, 5], none⟩⟩] [] 4161536)
 (.region [⟨true, ⟨(some 22), .faddr 1 (.t 4), [], none⟩⟩,
   ⟨true, ⟨(some 23), .load none (.t 22), [0], none⟩⟩,
   ⟨true, ⟨(some 24), .mov (.t 5), [], none⟩⟩,
   ⟨true, ⟨(some 25), .build [(.int .i64 (.ofNat 0)), (.int .i64 (.ofNat 0))] [(0, 1, (.t 24)), (1, 1, (.c (.int .i64 (.ofNat 1))))], [2], none⟩⟩,
   ⟨true, ⟨(some 26), .bslice false .dyn 2 1 [(.int .i64 (.ofNat 0)), (.int .i64 (.ofNat 0))] [(0, 2, (.t 25))], [3], none⟩⟩,
   ⟨true, ⟨(some 27), .append .dyn 2 16 (.t 23) (.t 26), [1, 4], none⟩⟩,
   ⟨true, ⟨(some 28), .faddr 1 (.t 4), [0, 1, 2, 3, 4, 5], none⟩⟩,
   ⟨false, ⟨none, .store 1 (.t 28) (.t 27), [6, 5, 5, 0, 1, 2, 3, 4, 5], none⟩⟩] [] 532676640))))
 (.region [⟨true, ⟨(some 29), .bin .add (.t 12) (.c (.int .i64 (.ofNat 1))), [], none⟩⟩,
   ⟨false, ⟨(some 12), .mov (.t 29), [0], none⟩⟩] [] 536870912)))))))
 (.seq (.region [⟨true, ⟨(some 30), .load (some 3) (.t 4), [], none⟩⟩,
   ⟨true, ⟨(some 31), .bslice false .dyn 3 1 [(.str []), .nilsl, (.int .i64 (.ofNat 0))] [(0, 3, (.t 30))], [0], none⟩⟩,
   ⟨true, ⟨(some 32), .faddr 4 (.t 3), [0, 1], none⟩⟩,
   ⟨false, ⟨none, .store 1 (.t 32) (.t 31), [2, 1, 0, 1], none⟩⟩] [] 7516198928)
 (.seq (.region [⟨true, ⟨(some 33), .load (some 5) (.t 3), [], none⟩⟩,
   ⟨false, ⟨none, .store 5 (.t 2) (.t 33), [0, 0], none⟩⟩] [] 8589934600)
 .ret))))))⟩
def f33 : FFn := ⟨41, [.cell 2 (some 5)],
 (.seq (.region [⟨true, ⟨(some 2), .alloc .dyn (.agg [.nilsl, .nilsl, .nilsl, .nilsl, .nilsl]), [], none⟩⟩] [] 0)
 (.seq (.region [⟨true, ⟨(some 6), .mov (.t 0), [], none⟩⟩,
   ⟨true, ⟨(some 7), .call .heap (.f 29) [(.t 6)], [0], none⟩⟩,
   ⟨true, ⟨(some 3), .alloc .dyn (.agg [.nilsl, .nilsl, .nilsl, .nilsl, .nilsl]), [], none⟩⟩,
   ⟨false, ⟨none, .store 5 (.t 3) (.t 7), [2, 1, 1, 0, 1, 2], none⟩⟩] [] 192)
 (.seq (.region [⟨true, ⟨(some 8), .mov (.t 0), [], none⟩⟩,
   ⟨true, ⟨(some 9), .bslice false .dyn 1 1 [(.int .i64 (.ofNat 0))] [(0, 1, (.c (.int .i64 (.ofNat 0))))], [], none⟩⟩,
   ⟨true, ⟨(some 10), .build [.nilsl, (.int .i64 (.ofNat 0)), .nilsl, .nilsl] [(1, 1, (.t 8)), (2, 1, (.t 9))], [0, 1], none⟩⟩,
   ⟨true, ⟨(some 4), .alloc .dyn (.agg [.nilsl, (.int .i64 (.ofNat 0)), .nilsl, .nilsl]), [], none⟩⟩,
   ⟨false, ⟨none, .store 4 (.t 4) (.t 10), [3, 2, 0, 1, 2, 3], none⟩⟩] [] 1792)
 (.seq (.seq (.region [⟨true, ⟨(some 11), .mov (.t 0), [], none⟩⟩,
   ⟨true, ⟨(some 12), .mov (.c (.int .i64 (.ofNat 0))), [], none⟩⟩] [] 0)
 (.block 0 (.loop (.seq (.region [⟨true, ⟨(some 13), .bin .lss (.t 12) (.t 11), [], none⟩⟩] [] 0)
 (.seq (.cond (.t 13)
  .skip
  (.exit 0))
 (.seq (.block 1 (.seq (.region [⟨true, ⟨(some 14), .mov (.t 12), [], none⟩⟩,
   ⟨true, ⟨(some 5), .mov (.t 14), [0, 0], none⟩⟩] [] 24576)
 (.seq (.region [⟨true, ⟨(some 15), .faddr 0 (.t 4), [], none⟩⟩,
   ⟨true, ⟨(some 16), .load none (.t 15), [0], none⟩⟩,
   ⟨true, ⟨(some 17), .mov (.t 5), [], none⟩⟩,
   ⟨true, ⟨(some 18), .bin .mul (.c (.int .i64 (.ofNat 2))) (.t 17), [2], none⟩⟩,
   ⟨true, ⟨(some 19), .bslice false .dyn 1 1 [(.int .i64 (.ofNat 0))] [(0, 1, (.t 18))], [3], none⟩⟩,
   ⟨true, ⟨(some 20), .append .dyn 1 8 (.t 16) (.t 19), [1, 4], none⟩⟩,
   ⟨true, ⟨(some 21), .faddr 0 (.t 4), [0, 1, 2, 3, 4, 5], none⟩⟩,
   ⟨false, ⟨none, .store 1 (.t 21) (.t 20), [6, 5, 5, 0, 1, 2, 3, 4, 5], none⟩⟩] [] 4161536)
 (.region [⟨true, ⟨(some 22), .faddr 3 (.t 4), [], none⟩⟩,
   ⟨true, ⟨(some 23), .load none (.t 22), [0], none⟩⟩,
   ⟨true, ⟨(some 24), .mov (.t 5), [], none⟩⟩,
   ⟨true, ⟨(some 25), .mov (.t 5), [], none⟩⟩,
   ⟨true, ⟨(some 26), .bin .mul (.c (.int .i64 (.ofNat 2))) (.t 25), [3], none⟩⟩,
   ⟨true, ⟨(some 27), .mov (.t 5), [], none⟩⟩,
   ⟨true, ⟨(some 28), .bin .add (.t 27) (.c (.int .i64 (.ofNat 1))), [5], none⟩⟩,
   ⟨true, ⟨(some 29), .mov (.t 0), [], none⟩⟩,
   ⟨true, ⟨(some 30), .bin .rem (.t 28) (.t 29), [6, 7], none⟩⟩,
   ⟨true, ⟨(some 31), .build [(.int .i64 (.ofNat 0)), (.int .i64 (.ofNat 0)), (.int .i64 (.ofNat 0))] [(0, 1, (.t 24)), (1, 1, (.t 26)), (2, 1, (.t 30))], [2, 4, 8], none⟩⟩,
   ⟨true, ⟨(some 32), .bslice false .dyn 3 1 [(.int .i64 (.ofNat 0)), (.int .i64 (.ofNat 0)), (.int .i64 (.ofNat 0))] [(0, 3, (.t 31))], [9], none⟩⟩,
   ⟨true, ⟨(some 33), .append .dyn 3 24 (.t 23) (.t 32), [1, 10], none⟩⟩,
   ⟨true, ⟨(some 34), .faddr 3 (.t 4), [0, 1, 2, 3, 4, 5, 6, 7, 8, 9, 10, 11], none⟩⟩,
   ⟨false, ⟨none, .store 1 (.t 34) (.t 33), [12, 11, 11, 0, 1, 2, 3, 4, 5, 6, 7, 8, 9, 10, 11], none⟩⟩] [] 34355544096))))
 (.region [⟨true, ⟨(some 35), .bin .add (.t 12) (.c (.int .i64 (.ofNat 1))), [], none⟩⟩,
   ⟨false, ⟨(some 12), .mov (.t 35), [0], none⟩⟩] [] 34359738368)))))))
 (.seq (.region [⟨true, ⟨(some 36), .load (some 4) (.t 4), [], none⟩⟩,
   ⟨true, ⟨(some 37), .build [(.str []), .nilsl, (.int .i64 (.ofNat 0)), .nilsl, .nilsl] [(0, 1, (.c (.str [116, 117, 114, 110, 115]))), (1, 4, (.t 36))], [0], none⟩⟩,
   ⟨true, ⟨(some 38), .bslice false .dyn 5 1 [(.str []), .nilsl, (.int .i64 (.ofNat 0)), .nilsl, .nilsl] [(0, 5, (.t 37))], [1], none⟩⟩,
   ⟨true, ⟨(some 39), .faddr 2 (.t 3), [0, 1, 2], none⟩⟩,
   ⟨false, ⟨none, .store 1 (.t 39) (.t 38), [3, 2, 0, 1, 2], none⟩⟩] [] 1030792157201)
 (.seq (.region [⟨true, ⟨(some 40), .load (some 5) (.t 3), [], none⟩⟩,
   ⟨false, ⟨none, .store 5 (.t 2) (.t 40), [0, 0], none⟩⟩] [] 1099511627784)
 .ret))))))⟩
def f34 : FFn := ⟨15, [.cell 8 (some 5)],
 (.seq (.region [⟨true, ⟨(some 8), .alloc .dyn (.agg [(.int .i64 (.ofNat 0)), (.int .i64 (.ofNat 0)), (.int .i64 (.ofNat 0)), (.int .i64 (.ofNat 0)), .nilsl]), [], none⟩⟩] [] 0)
 (.seq (.region [⟨true, ⟨(some 9), .mov (.t 0), [], none⟩⟩,
   ⟨true, ⟨(some 10), .mov (.t 2), [], none⟩⟩,
   ⟨true, ⟨(some 11), .mov (.t 1), [], none⟩⟩,
   ⟨true, ⟨(some 12), .mov (.t 1), [], none⟩⟩,
   ⟨true, ⟨(some 13), .mov (.t 3), [], none⟩⟩,
   ⟨true, ⟨(some 14), .build [(.int .i64 (.ofNat 0)), (.int .i64 (.ofNat 0)), (.int .i64 (.ofNat 0)), (.int .i64 (.ofNat 0)), .nilsl] [(0, 1, (.t 9)), (1, 1, (.t 10)), (2, 1, (.t 11)), (3, 1, (.t 12)), (4, 1, (.t 13))], [0, 1, 2, 3, 4], none⟩⟩,
   ⟨false, ⟨none, .store 5 (.t 8) (.t 14), [5, 0, 1, 2, 3, 4, 5], none⟩⟩] [] 32271)
 .ret))⟩
def f35 : FFn := ⟨14, [.tmp 4],
 (.seq (.region [⟨true, ⟨(some 4), .mov (.c (.int .i64 (.ofNat 0))), [], none⟩⟩] [] 16)
 (.seq (.region [⟨true, ⟨(some 5), .mov (.c (.int .i64 (.ofNat 1))), [], none⟩⟩] [] 0)
 (.seq (.seq (.region [⟨true, ⟨(some 6), .mov (.t 1), [], none⟩⟩,
   ⟨true, ⟨(some 7), .mov (.c (.int .i64 (.ofNat 0))), [], none⟩⟩] [] 2)
 (.block 0 (.loop (.seq (.region [⟨true, ⟨(some 8), .bin .lss (.t 7) (.t 6), [], none⟩⟩] [] 0)
 (.seq (.cond (.t 8)
  .skip
  (.exit 0))
 (.seq (.block 1 (.region [⟨true, ⟨(some 9), .mov (.t 5), [], none⟩⟩,
   ⟨true, ⟨(some 10), .mov (.t 0), [], none⟩⟩,
   ⟨true, ⟨(some 11), .bin .mul (.t 9) (.t 10), [0, 1], none⟩⟩,
   ⟨false, ⟨(some 5), .mov (.t 11), [2, 0, 1, 2], none⟩⟩] [] 3840))
 (.region [⟨true, ⟨(some 12), .bin .add (.t 7) (.c (.int .i64 (.ofNat 1))), [], none⟩⟩,
   ⟨false, ⟨(some 7), .mov (.t 12), [0], none⟩⟩] [] 4096)))))))
 (.seq (.region [⟨true, ⟨(some 13), .mov (.t 5), [], none⟩⟩,
   ⟨true, ⟨(some 4), .mov (.t 13), [0, 0], none⟩⟩] [] 8417)
 .ret))))⟩
def f36 : FFn := ⟨11, [],
 (.seq (.region [⟨true, ⟨(some 3), .mov (.t 0), [], none⟩⟩,
   ⟨true, ⟨(some 4), .len 1 (.t 3), [0], none⟩⟩,
   ⟨true, ⟨(some 2), .mov (.t 4), [1, 0, 1], none⟩⟩] [] 24)
 (.region [⟨true, ⟨(some 5), .mov (.t 0), [], none⟩⟩,
   ⟨true, ⟨(some 6), .mov (.t 2), [], none⟩⟩,
   ⟨true, ⟨(some 7), .mov (.t 2), [], none⟩⟩,
   ⟨true, ⟨(some 8), .conv .u64 (.t 7), [2], none⟩⟩,
   ⟨true, ⟨(some 9), .call .heap (.f 49) [(.t 8)], [3], none⟩⟩,
   ⟨true, ⟨(some 10), .call .heap (.f 48) [(.t 5), (.c (.int .i64 (.ofNat 0))), (.t 6), (.t 9)], [0, 1, 4, 4], none⟩⟩] [] 2021))⟩
def f37 : FFn := ⟨58, [.tmp 2],
 (.seq (.region [⟨true, ⟨(some 1), .box .dyn (.t 0), [], none⟩⟩,
   ⟨true, ⟨(some 2), .mov (.c (.int .i64 (.ofNat 0))), [], none⟩⟩] [] 5)
 (.seq (.block 0 (.seq (.region [⟨true, ⟨(some 9), .faddr 0 (.t 1), [], none⟩⟩,
   ⟨true, ⟨(some 10), .load none (.t 9), [0], none⟩⟩,
   ⟨true, ⟨(some 11), .len 1 (.t 10), [1], none⟩⟩,
   ⟨true, ⟨(some 12), .bin .gtr (.t 11) (.c (.int .i64 (.ofNat 10))), [2], none⟩⟩,
   ⟨true, ⟨(some 8), .mov (.t 12), [3], none⟩⟩] [] 7680)
 (.cond (.t 8)
  (.seq (.region [⟨true, ⟨(some 2), .mov (.c (.int .i64 (.ofNat 3))), [], none⟩⟩] [] 258)
  .ret)
  (.seq (.region [⟨true, ⟨(some 14), .faddr 0 (.t 1), [], none⟩⟩,
    ⟨true, ⟨(some 15), .load none (.t 14), [0], none⟩⟩,
    ⟨true, ⟨(some 16), .call .heap (.f 50) [(.t 15)], [1], none⟩⟩,
    ⟨true, ⟨(some 17), .un .not (.t 16), [2], none⟩⟩,
    ⟨true, ⟨(some 13), .mov (.t 17), [3, 2], none⟩⟩] [] 246016)
  (.cond (.t 13)
   (.seq (.region [⟨true, ⟨(some 2), .mov (.c (.int .i64 (.ofNat 2))), [], none⟩⟩] [] 8194)
   .ret)
   (.seq (.region [⟨true, ⟨(some 19), .faddr 1 (.t 1), [], none⟩⟩,
     ⟨true, ⟨(some 20), .load none (.t 19), [0], none⟩⟩,
     ⟨true, ⟨(some 21), .len 1 (.t 20), [1], none⟩⟩,
     ⟨true, ⟨(some 22), .bin .gtr (.t 21) (.c (.int .i64 (.ofNat 10))), [2], none⟩⟩,
     ⟨true, ⟨(some 18), .mov (.t 22), [3], none⟩⟩] [] 7872512)
   (.cond (.t 18)
    (.seq (.region [⟨true, ⟨(some 2), .mov (.c (.int .i64 (.ofNat 3))), [], none⟩⟩] [] 262146)
    .ret)
    .skip)))))))
 (.seq (.seq (.region [⟨true, ⟨(some 23), .faddr 1 (.t 1), [], none⟩⟩,
   ⟨true, ⟨(some 24), .load none (.t 23), [0], none⟩⟩,
   ⟨true, ⟨(some 25), .len 1 (.t 24), [1], none⟩⟩,
   ⟨true, ⟨(some 26), .mov (.c (.int .i64 (.ofNat 0))), [], none⟩⟩] [] 8650756)
 (.block 1 (.loop (.seq (.region [⟨true, ⟨(some 27), .bin .lss (.t 26) (.t 25), [], none⟩⟩] [] 0)
 (.seq (.cond (.t 27)
  .skip
  (.exit 1))
 (.seq (.block 2 (.seq (.region [⟨true, ⟨(some 28), .iaddr none 3 (.t 24) (.t 26), [], none⟩⟩,
   ⟨true, ⟨(some 29), .load (some 3) (.t 28), [0], none⟩⟩,
   ⟨true, ⟨(some 4), .alloc .dyn (.agg [(.int .i64 (.ofNat 0)), .nilsl, .nilsl]), [], none⟩⟩,
   ⟨false, ⟨none, .store 3 (.t 4) (.t 29), [2, 1, 0, 1, 2], none⟩⟩] [] 939524096)
 (.seq (.seq (.region [⟨true, ⟨(some 30), .faddr 0 (.t 4), [], none⟩⟩,
   ⟨true, ⟨(some 31), .load none (.t 30), [0], none⟩⟩,
   ⟨true, ⟨(some 32), .bin .lss (.t 31) (.c (.int .i64 (.ofNat 0))), [1], none⟩⟩,
   ⟨true, ⟨(some 33), .mov (.t 32), [2], none⟩⟩,
   ⟨false, ⟨(some 34), .faddr 0 (.t 4), [3], (some (33, false))⟩⟩,
   ⟨false, ⟨(some 35), .load none (.t 34), [4, 3], (some (33, false))⟩⟩,
   ⟨false, ⟨(some 36), .bin .geq (.t 35) (.c (.int .i64 (.ofNat 32))), [5, 3], (some (33, false))⟩⟩,
   ⟨true, ⟨(some 37), .pick (.t 33) (.c (.bool true)) (.t 36), [3, 6], none⟩⟩] [] 16106127360)
 (.cond (.t 37)
  (.seq (.region [⟨true, ⟨(some 2), .mov (.c (.int .i64 (.ofNat 2))), [], none⟩⟩] [] 257815478290)
  .ret)
  .skip))
 (.seq (.region [⟨true, ⟨(some 38), .faddr 1 (.t 4), [], none⟩⟩,
   ⟨true, ⟨(some 39), .load none (.t 38), [0], none⟩⟩,
   ⟨true, ⟨(some 40), .faddr 2 (.t 4), [], none⟩⟩,
   ⟨true, ⟨(some 41), .load none (.t 40), [2], none⟩⟩,
   ⟨true, ⟨(some 42), .bslice false .dyn 1 2 [.nilsl, .nilsl] [(0, 1, (.t 39)), (1, 1, (.t 41))], [1, 3], none⟩⟩,
   ⟨true, ⟨(some 43), .len 1 (.t 42), [4], none⟩⟩,
   ⟨true, ⟨(some 44), .mov (.c (.int .i64 (.ofNat 0))), [], none⟩⟩] [] 4260607557652)
 (.block 3 (.loop (.seq (.region [⟨true, ⟨(some 45), .bin .lss (.t 44) (.t 43), [], none⟩⟩] [] 0)
 (.seq (.cond (.t 45)
  .skip
  (.exit 3))
 (.seq (.block 4 (.seq (.region [⟨true, ⟨(some 46), .iaddr none 1 (.t 42) (.t 44), [], none⟩⟩,
   ⟨true, ⟨(some 47), .load none (.t 46), [0], none⟩⟩,
   ⟨true, ⟨(some 6), .mov (.t 47), [1, 0, 1], none⟩⟩] [] 246290604621824)
 (.seq (.region [⟨true, ⟨(some 48), .mov (.t 6), [], none⟩⟩,
   ⟨true, ⟨(some 49), .faddr 0 (.t 1), [], none⟩⟩,
   ⟨true, ⟨(some 50), .load none (.t 49), [1], none⟩⟩,
   ⟨true, ⟨(some 51), .len 1 (.t 50), [2], none⟩⟩,
   ⟨true, ⟨(some 52), .call .heap (.f 51) [(.t 48), (.t 51)], [0, 3], none⟩⟩,
   ⟨true, ⟨(some 7), .mov (.t 52), [4, 4, 0, 1, 2, 3, 4], none⟩⟩] [] 8725724278030400)
 (.seq (.region [⟨true, ⟨(some 53), .mov (.t 7), [], none⟩⟩,
   ⟨true, ⟨(some 54), .bin .neq (.t 53) (.c (.int .i64 (.ofNat 0))), [0], none⟩⟩] [] 9007199254740992)
 (.cond (.t 54)
  (.seq (.region [⟨true, ⟨(some 55), .mov (.t 7), [], none⟩⟩,
    ⟨true, ⟨(some 2), .mov (.t 55), [0, 0], none⟩⟩] [] 54074102230548610)
  .ret)
  .skip)))))
 (.region [⟨true, ⟨(some 56), .bin .add (.t 44) (.c (.int .i64 (.ofNat 1))), [], none⟩⟩,
   ⟨false, ⟨(some 44), .mov (.t 56), [0], none⟩⟩] [] 90071992547410052))))))))))
 (.region [⟨true, ⟨(some 57), .bin .add (.t 26) (.c (.int .i64 (.ofNat 1))), [], none⟩⟩,
   ⟨false, ⟨(some 26), .mov (.t 57), [0], none⟩⟩] [] 144145974401433600)))))))
 (.seq (.region [⟨true, ⟨(some 2), .mov (.c (.int .i64 (.ofNat 0))), [], none⟩⟩] [] 120376524802)
 .ret))))⟩
def f38 : FFn := ⟨120, [.tmp 2, .tmp 3],
 (.seq (.region [⟨true, ⟨(some 1), .box .dyn (.t 0), [], none⟩⟩,
   ⟨true, ⟨(some 2), .mov (.c .nilptr), [], none⟩⟩,
   ⟨true, ⟨(some 3), .mov (.c (.int .i64 (.ofNat 0))), [1], none⟩⟩] [] 13)
 (.seq (.region [⟨true, ⟨(some 12), .mkmap .dyn, [], none⟩⟩,
   ⟨true, ⟨(some 13), .build [.nilsl, .nilsl, .nilmap, (.int .i64 (.ofNat 0))] [(2, 1, (.t 12)), (3, 1, (.c (.int .i64 (.negSucc 0))))], [0], none⟩⟩,
   ⟨true, ⟨(some 14), .box .dyn (.t 13), [1], none⟩⟩,
   ⟨true, ⟨(some 4), .mov (.t 14), [2, 0, 1, 2], none⟩⟩] [] 28672)
 (.seq (.region [⟨true, ⟨(some 15), .mov (.t 4), [], none⟩⟩,
   ⟨true, ⟨(some 16), .faddr 0 (.t 1), [], none⟩⟩,
   ⟨true, ⟨(some 17), .load none (.t 16), [1], none⟩⟩,
   ⟨true, ⟨(some 18), .call .heap (.f 53) [(.t 17)], [2], none⟩⟩,
   ⟨true, ⟨(some 19), .build [.nilsl, (.int .i64 (.ofNat 0)), (.int .i64 (.ofNat 0))] [(0, 1, (.t 18)), (1, 1, (.c (.int .i64 (.negSucc 0)))), (2, 1, (.c (.int .i64 (.negSucc 0))))], [3], none⟩⟩,
   ⟨true, ⟨(some 20), .call .heap (.f 52) [(.t 15), (.t 19)], [0, 4, 3], none⟩⟩] [] 2064384)
 (.seq (.seq (.region [⟨true, ⟨(some 5), .mov (.c (.int .i64 (.ofNat 0))), [], none⟩⟩] [] 0)
 (.block 0 (.loop (.seq (.seq (.region [⟨true, ⟨(some 21), .mov (.t 5), [], none⟩⟩,
   ⟨true, ⟨(some 22), .mov (.t 4), [], none⟩⟩,
   ⟨true, ⟨(some 23), .nilchk (.t 22), [1], none⟩⟩,
   ⟨true, ⟨(some 24), .faddr 0 (.t 23), [2], none⟩⟩,
   ⟨true, ⟨(some 25), .load none (.t 24), [3], none⟩⟩,
   ⟨true, ⟨(some 26), .len 1 (.t 25), [4], none⟩⟩,
   ⟨true, ⟨(some 27), .bin .lss (.t 21) (.t 26), [0, 5], none⟩⟩] [] 132120576)
 (.cond (.t 27)
  .skip
  (.exit 0)))
 (.seq (.block 1 (.seq (.region [⟨true, ⟨(some 30), .load (some 2) (.t 1), [], none⟩⟩,
   ⟨true, ⟨(some 31), .mov (.t 4), [], none⟩⟩,
   ⟨true, ⟨(some 32), .nilchk (.t 31), [1], none⟩⟩,
   ⟨true, ⟨(some 33), .faddr 0 (.t 32), [2], none⟩⟩,
   ⟨true, ⟨(some 34), .load none (.t 33), [3], none⟩⟩,
   ⟨true, ⟨(some 35), .mov (.t 5), [], none⟩⟩,
   ⟨true, ⟨(some 36), .iaddr none 3 (.t 34) (.t 35), [4, 5], none⟩⟩,
   ⟨true, ⟨(some 37), .faddr 0 (.t 36), [6], none⟩⟩,
   ⟨true, ⟨(some 38), .load none (.t 37), [7], none⟩⟩,
   ⟨true, ⟨(some 39), .call .heap (.f 19) [(.t 30), (.t 38)], [0, 8], none⟩⟩,
   ⟨true, ⟨(some 40), .len 1 (.t 39), [9], none⟩⟩,
   ⟨true, ⟨(some 41), .mov (.c (.int .i64 (.ofNat 0))), [], none⟩⟩] [] 548816289792)
 (.block 2 (.loop (.seq (.region [⟨true, ⟨(some 42), .bin .lss (.t 41) (.t 40), [], none⟩⟩] [] 0)
 (.seq (.cond (.t 42)
  .skip
  (.exit 2))
 (.seq (.block 3 (.seq (.region [⟨true, ⟨(some 43), .iaddr none 1 (.t 39) (.t 41), [], none⟩⟩,
   ⟨true, ⟨(some 44), .load none (.t 43), [0], none⟩⟩,
   ⟨true, ⟨(some 7), .mov (.t 44), [1, 0, 1], none⟩⟩] [] 30786325577728)
 (.seq (.region [⟨true, ⟨(some 46), .faddr 1 (.t 1), [], none⟩⟩,
   ⟨true, ⟨(some 47), .load none (.t 46), [0], none⟩⟩,
   ⟨true, ⟨(some 48), .mov (.t 7), [], none⟩⟩,
   ⟨true, ⟨(some 49), .iaddr none 3 (.t 47) (.t 48), [1, 2], none⟩⟩,
   ⟨true, ⟨(some 50), .load (some 3) (.t 49), [3], none⟩⟩,
   ⟨true, ⟨(some 51), .mov (.t 4), [], none⟩⟩,
   ⟨true, ⟨(some 52), .nilchk (.t 51), [5], none⟩⟩,
   ⟨true, ⟨(some 53), .faddr 0 (.t 52), [6], none⟩⟩,
   ⟨true, ⟨(some 54), .load none (.t 53), [7], none⟩⟩,
   ⟨true, ⟨(some 55), .mov (.t 5), [], none⟩⟩,
   ⟨true, ⟨(some 56), .iaddr none 3 (.t 54) (.t 55), [8, 9], none⟩⟩,
   ⟨true, ⟨(some 57), .faddr 0 (.t 56), [10], none⟩⟩,
   ⟨true, ⟨(some 58), .load none (.t 57), [11], none⟩⟩,
   ⟨true, ⟨(some 59), .call .heap (.f 54) [(.t 50), (.t 58)], [4, 12], none⟩⟩,
   ⟨true, ⟨(some 45), .mov (.t 59), [13], none⟩⟩,
   ⟨true, ⟨(some 60), .extract 0 (.t 45), [14], none⟩⟩,
   ⟨true, ⟨(some 61), .extract 1 (.t 45), [14], none⟩⟩,
   ⟨true, ⟨(some 8), .mov (.t 60), [15, 13, 0, 1, 2, 3, 4, 5, 6, 7, 8, 9, 10, 11, 12, 13, 14, 15], none⟩⟩,
   ⟨true, ⟨(some 9), .mov (.t 61), [16, 17, 0, 1, 2, 3, 4, 5, 6, 7, 8, 9, 10, 11, 12, 13, 14, 15, 16, 17], none⟩⟩] [] 4611650834055299072)
 (.seq (.seq (.region [⟨true, ⟨(some 62), .mov (.t 9), [], none⟩⟩,
   ⟨true, ⟨(some 63), .bin .neq (.t 62) (.c (.int .i64 (.ofNat 0))), [0], none⟩⟩] [] 4611686018427387904)
 (.cond (.t 63)
  (.seq (.region [⟨true, ⟨(some 64), .mov (.t 9), [], none⟩⟩,
    ⟨true, ⟨(some 2), .mov (.c .nilptr), [], none⟩⟩,
    ⟨true, ⟨(some 3), .mov (.t 64), [0, 1, 0, 1], none⟩⟩] [] 27670119958855025586)
  .ret)
  .skip))
 (.seq (.region [⟨true, ⟨(some 66), .mov (.t 4), [], none⟩⟩,
   ⟨true, ⟨(some 67), .nilchk (.t 66), [0], none⟩⟩,
   ⟨true, ⟨(some 68), .faddr 2 (.t 67), [1], none⟩⟩,
   ⟨true, ⟨(some 69), .load none (.t 68), [2], none⟩⟩,
   ⟨true, ⟨(some 70), .mov (.t 8), [], none⟩⟩,
   ⟨true, ⟨(some 71), .call .borrow (.f 55) [(.t 70)], [4], none⟩⟩,
   ⟨true, ⟨(some 72), .lookup false [.s] (.int .i64 (.ofNat 0)) true (.t 69) (.t 71), [3, 5], none⟩⟩,
   ⟨true, ⟨(some 65), .mov (.t 72), [6], none⟩⟩,
   ⟨true, ⟨(some 73), .extract 0 (.t 65), [7], none⟩⟩,
   ⟨true, ⟨(some 74), .extract 1 (.t 65), [7], none⟩⟩,
   ⟨true, ⟨(some 10), .mov (.t 73), [8, 5, 0, 1, 2, 3, 4, 5, 6, 7, 8], none⟩⟩,
   ⟨true, ⟨(some 11), .mov (.t 74), [9, 10, 0, 1, 2, 3, 4, 5, 6, 7, 8, 9, 10], none⟩⟩] [] 37751261746846597382668)
 (.seq (.seq (.region [⟨true, ⟨(some 75), .mov (.t 11), [], none⟩⟩,
   ⟨true, ⟨(some 76), .un .not (.t 75), [0], none⟩⟩] [] 37778931862957161711616)
 (.cond (.t 76)
  (.seq (.region [⟨true, ⟨(some 77), .mov (.t 4), [], none⟩⟩,
    ⟨true, ⟨(some 78), .nilchk (.t 77), [0], none⟩⟩,
    ⟨true, ⟨(some 79), .faddr 0 (.t 78), [1], none⟩⟩,
    ⟨true, ⟨(some 80), .load none (.t 79), [2], none⟩⟩,
    ⟨true, ⟨(some 81), .len 1 (.t 80), [3], none⟩⟩,
    ⟨false, ⟨(some 10), .mov (.t 81), [4, 0, 1, 2, 3, 4], none⟩⟩] [] 4760145414732602375405568)
  (.seq (.region [⟨true, ⟨(some 82), .mov (.t 4), [], none⟩⟩,
    ⟨true, ⟨(some 83), .mov (.t 8), [], none⟩⟩,
    ⟨true, ⟨(some 84), .mov (.t 5), [], none⟩⟩,
    ⟨true, ⟨(some 85), .mov (.t 7), [], none⟩⟩,
    ⟨true, ⟨(some 86), .build [.nilsl, (.int .i64 (.ofNat 0)), (.int .i64 (.ofNat 0))] [(0, 1, (.t 83)), (1, 1, (.t 84)), (2, 1, (.t 85))], [1, 2, 3], none⟩⟩,
    ⟨true, ⟨(some 87), .call .heap (.f 52) [(.t 82), (.t 86)], [0, 4], none⟩⟩] [] 304649306542886552025956608)
  (.seq (.seq (.region [⟨true, ⟨(some 88), .mov (.t 4), [], none⟩⟩,
    ⟨true, ⟨(some 89), .mov (.t 4), [], none⟩⟩,
    ⟨true, ⟨(some 90), .call .heap (.f 56) [(.t 89)], [1], none⟩⟩,
    ⟨true, ⟨(some 91), .nilchk (.t 88), [0, 0, 1, 2], none⟩⟩,
    ⟨true, ⟨(some 92), .faddr 3 (.t 91), [3, 0, 1, 2], none⟩⟩,
    ⟨false, ⟨none, .store 1 (.t 92) (.t 90), [4, 2, 2, 0, 1, 2], none⟩⟩] [] 9594035304461697130468212736)
  (.seq (.region [⟨true, ⟨(some 93), .mov (.t 4), [], none⟩⟩,
    ⟨true, ⟨(some 94), .nilchk (.t 93), [0], none⟩⟩,
    ⟨true, ⟨(some 95), .faddr 3 (.t 94), [1], none⟩⟩,
    ⟨true, ⟨(some 96), .load none (.t 95), [2], none⟩⟩,
    ⟨true, ⟨(some 97), .bin .geq (.t 96) (.c (.int .i64 (.ofNat 0))), [3], none⟩⟩] [] 148552804714245632987894906880)
  (.cond (.t 97)
   (.seq (.region [⟨true, ⟨(some 98), .mov (.t 4), [], none⟩⟩,
     ⟨true, ⟨(some 2), .mov (.t 98), [0, 0], none⟩⟩,
     ⟨true, ⟨(some 3), .mov (.c (.int .i64 (.ofNat 0))), [1, 0, 1], none⟩⟩] [] 475368975085586029409554400434)
   .ret)
   .skip)))
  (.seq (.region [⟨true, ⟨(some 99), .mov (.t 4), [], none⟩⟩,
    ⟨true, ⟨(some 100), .nilchk (.t 99), [0], none⟩⟩,
    ⟨true, ⟨(some 101), .faddr 0 (.t 100), [1], none⟩⟩,
    ⟨true, ⟨(some 102), .load none (.t 101), [2], none⟩⟩,
    ⟨true, ⟨(some 103), .len 1 (.t 102), [3], none⟩⟩,
    ⟨true, ⟨(some 104), .bin .gtr (.t 103) (.c (.int .i64 (.ofNat 4096))), [4], none⟩⟩] [] 19807040628566084398385987584012)
  (.cond (.t 104)
   (.seq (.region [⟨true, ⟨(some 2), .mov (.c .nilptr), [], none⟩⟩,
     ⟨true, ⟨(some 3), .mov (.c (.int .i64 (.ofNat 3))), [0, 0], none⟩⟩] [] 20282409603651670427795541984434)
   .ret)
   .skip)))))
  .skip))
 (.region [⟨true, ⟨(some 105), .mov (.t 4), [], none⟩⟩,
   ⟨true, ⟨(some 106), .mov (.t 4), [], none⟩⟩,
   ⟨true, ⟨(some 107), .nilchk (.t 106), [1], none⟩⟩,
   ⟨true, ⟨(some 108), .faddr 1 (.t 107), [2], none⟩⟩,
   ⟨true, ⟨(some 109), .load none (.t 108), [3], none⟩⟩,
   ⟨true, ⟨(some 110), .mov (.t 5), [], none⟩⟩,
   ⟨true, ⟨(some 111), .mov (.t 7), [], none⟩⟩,
   ⟨true, ⟨(some 112), .mov (.t 10), [], none⟩⟩,
   ⟨true, ⟨(some 113), .build [(.int .i64 (.ofNat 0)), (.int .i64 (.ofNat 0)), (.int .i64 (.ofNat 0))] [(0, 1, (.t 110)), (1, 1, (.t 111)), (2, 1, (.t 112))], [5, 6, 7], none⟩⟩,
   ⟨true, ⟨(some 114), .bslice false .dyn 3 1 [(.int .i64 (.ofNat 0)), (.int .i64 (.ofNat 0)), (.int .i64 (.ofNat 0))] [(0, 3, (.t 113))], [8], none⟩⟩,
   ⟨true, ⟨(some 115), .append .dyn 3 24 (.t 109) (.t 114), [4, 9], none⟩⟩,
   ⟨true, ⟨(some 116), .nilchk (.t 105), [0, 0, 1, 2, 3, 4, 5, 6, 7, 8, 9, 10], none⟩⟩,
   ⟨true, ⟨(some 117), .faddr 1 (.t 116), [11, 0, 1, 2, 3, 4, 5, 6, 7, 8, 9, 10], none⟩⟩,
   ⟨false, ⟨none, .store 1 (.t 117) (.t 115), [12, 10, 10, 0, 1, 2, 3, 4, 5, 6, 7, 8, 9, 10], none⟩⟩] [] 332286716536700874419253732142220684)))))))
 (.region [⟨true, ⟨(some 118), .bin .add (.t 41) (.c (.int .i64 (.ofNat 1))), [], none⟩⟩,
   ⟨false, ⟨(some 41), .mov (.t 118), [0], none⟩⟩] [] 332306998946228968225951765070086144))))))))
 (.region [⟨true, ⟨(some 28), .mov (.t 5), [], none⟩⟩,
   ⟨true, ⟨(some 29), .bin .add (.t 28) (.c (.int .i64 (.ofNat 1))), [0], none⟩⟩,
   ⟨false, ⟨(some 5), .mov (.t 29), [1, 0, 1], none⟩⟩] [] 3849096003584))))))
 (.seq (.region [⟨true, ⟨(some 119), .mov (.t 4), [], none⟩⟩,
   ⟨true, ⟨(some 2), .mov (.t 119), [0, 0], none⟩⟩,
   ⟨true, ⟨(some 3), .mov (.c (.int .i64 (.ofNat 0))), [1, 0, 1], none⟩⟩] [] 664613997892457936451903530140172338)
 .ret)))))⟩
def f39 : FFn := ⟨10, [.tmp 4],
 (.seq (.region [⟨true, ⟨(some 2), .box .dyn (.t 0), [], none⟩⟩,
   ⟨true, ⟨(some 3), .box .dyn (.t 1), [], none⟩⟩,
   ⟨true, ⟨(some 4), .mov (.c (.bool false)), [], none⟩⟩] [] 19)
 (.seq (.region [⟨true, ⟨(some 5), .faddr 1 (.t 2), [], none⟩⟩,
   ⟨true, ⟨(some 6), .load none (.t 5), [0], none⟩⟩,
   ⟨true, ⟨(some 7), .mkfn 58 [] [(.t 3)], [], none⟩⟩,
   ⟨true, ⟨(some 8), .call .heap (.f 57) [(.t 6), (.t 7)], [1, 2], none⟩⟩,
   ⟨true, ⟨(some 9), .un .not (.t 8), [3], none⟩⟩,
   ⟨true, ⟨(some 4), .mov (.t 9), [4, 3, 0, 1, 2, 3, 4], none⟩⟩] [] 1004)
 .ret))⟩
def f40 : FFn := ⟨28, [],
 (.seq (.region [⟨true, ⟨(some 4), .mov (.t 0), [], none⟩⟩,
   ⟨true, ⟨(some 5), .len 1 (.t 4), [0], none⟩⟩,
   ⟨true, ⟨(some 6), .bin .sub (.t 5) (.c (.int .i64 (.ofNat 1))), [1], none⟩⟩,
   ⟨true, ⟨(some 2), .mov (.c (.int .i64 (.ofNat 0))), [], none⟩⟩,
   ⟨true, ⟨(some 3), .mov (.t 6), [2, 3, 0, 1, 2, 3], none⟩⟩] [] 112)
 (.block 0 (.loop (.seq (.seq (.region [⟨true, ⟨(some 7), .mov (.t 2), [], none⟩⟩,
   ⟨true, ⟨(some 8), .mov (.t 3), [], none⟩⟩,
   ⟨true, ⟨(some 9), .bin .lss (.t 7) (.t 8), [0, 1], none⟩⟩] [] 384)
 (.cond (.t 9)
  .skip
  (.exit 0)))
 (.seq (.block 1 (.region [⟨true, ⟨(some 14), .mov (.t 0), [], none⟩⟩,
   ⟨true, ⟨(some 15), .mov (.t 2), [], none⟩⟩,
   ⟨true, ⟨(some 16), .mov (.t 0), [], none⟩⟩,
   ⟨true, ⟨(some 17), .mov (.t 3), [], none⟩⟩,
   ⟨true, ⟨(some 18), .mov (.t 0), [], none⟩⟩,
   ⟨true, ⟨(some 19), .mov (.t 3), [], none⟩⟩,
   ⟨true, ⟨(some 20), .iaddr none 1 (.t 18) (.t 19), [4, 5], none⟩⟩,
   ⟨true, ⟨(some 21), .load none (.t 20), [6], none⟩⟩,
   ⟨true, ⟨(some 22), .mov (.t 0), [], none⟩⟩,
   ⟨true, ⟨(some 23), .mov (.t 2), [], none⟩⟩,
   ⟨true, ⟨(some 24), .iaddr none 1 (.t 22) (.t 23), [8, 9], none⟩⟩,
   ⟨true, ⟨(some 25), .load none (.t 24), [10], none⟩⟩,
   ⟨true, ⟨(some 26), .iaddr none 1 (.t 14) (.t 15), [0, 1, 0, 1, 4, 5, 6, 7, 11], none⟩⟩,
   ⟨false, ⟨none, .store 1 (.t 26) (.t 21), [12, 7, 0, 1, 4, 5, 6, 7, 11], none⟩⟩,
   ⟨true, ⟨(some 27), .iaddr none 1 (.t 16) (.t 17), [2, 3, 0, 1, 2, 3, 4, 5, 6, 7, 8, 9, 10, 11, 12, 13], none⟩⟩,
   ⟨false, ⟨none, .store 1 (.t 27) (.t 25), [14, 11, 13, 0, 1, 2, 3, 4, 5, 6, 7, 8, 9, 10, 11, 12, 13], none⟩⟩] [] 268419584))
 (.region [⟨true, ⟨(some 10), .mov (.t 2), [], none⟩⟩,
   ⟨true, ⟨(some 11), .bin .add (.t 10) (.c (.int .i64 (.ofNat 1))), [0], none⟩⟩,
   ⟨true, ⟨(some 12), .mov (.t 3), [], none⟩⟩,
   ⟨true, ⟨(some 13), .bin .sub (.t 12) (.c (.int .i64 (.ofNat 1))), [2], none⟩⟩,
   ⟨false, ⟨(some 2), .mov (.t 11), [1, 0, 1], none⟩⟩,
   ⟨false, ⟨(some 3), .mov (.t 13), [3, 4, 0, 1, 2, 3, 4], none⟩⟩] [] 15360))))))⟩
def f41 : FFn := ⟨85, [.tmp 2, .tmp 3],
 (.seq (.region [⟨true, ⟨(some 1), .box .dyn (.t 0), [], none⟩⟩,
   ⟨true, ⟨(some 2), .mov (.c .nilsl), [], none⟩⟩,
   ⟨true, ⟨(some 3), .mov (.c (.int .i64 (.ofNat 0))), [1], none⟩⟩] [] 13)
 (.seq (.seq (.region [⟨true, ⟨(some 13), .load (some 2) (.t 1), [], none⟩⟩,
   ⟨true, ⟨(some 14), .call .heap (.f 37) [(.t 13)], [0], none⟩⟩,
   ⟨true, ⟨(some 4), .mov (.t 14), [1, 1, 0, 1], none⟩⟩] [] 24576)
 (.seq (.region [⟨true, ⟨(some 15), .mov (.t 4), [], none⟩⟩,
   ⟨true, ⟨(some 16), .bin .neq (.t 15) (.c (.int .i64 (.ofNat 0))), [0], none⟩⟩] [] 32768)
 (.cond (.t 16)
  (.seq (.region [⟨true, ⟨(some 17), .mov (.t 4), [], none⟩⟩,
    ⟨true, ⟨(some 2), .mov (.c .nilsl), [], none⟩⟩,
    ⟨true, ⟨(some 3), .mov (.t 17), [0, 1, 0, 1], none⟩⟩] [] 196626)
  .ret)
  .skip)))
 (.seq (.region [⟨true, ⟨(some 18), .faddr 0 (.t 1), [], none⟩⟩,
   ⟨true, ⟨(some 19), .load none (.t 18), [0], none⟩⟩,
   ⟨true, ⟨(some 20), .len 1 (.t 19), [1], none⟩⟩,
   ⟨true, ⟨(some 21), .mkslice .dyn 1 24 [.nilsl] (.t 20) (.t 20), [2, 2], none⟩⟩,
   ⟨true, ⟨(some 5), .mov (.t 21), [3, 0, 1, 2, 3], none⟩⟩] [] 3997724)
 (.seq (.seq (.region [⟨true, ⟨(some 22), .mov (.t 5), [], none⟩⟩,
   ⟨true, ⟨(some 23), .len 1 (.t 22), [0], none⟩⟩,
   ⟨true, ⟨(some 24), .mov (.c (.int .i64 (.ofNat 0))), [], none⟩⟩] [] 4194304)
 (.block 0 (.loop (.seq (.region [⟨true, ⟨(some 25), .bin .lss (.t 24) (.t 23), [], none⟩⟩] [] 0)
 (.seq (.cond (.t 25)
  .skip
  (.exit 0))
 (.seq (.block 1 (.seq (.region [⟨true, ⟨(some 26), .mov (.t 24), [], none⟩⟩,
   ⟨true, ⟨(some 6), .mov (.t 26), [0, 0], none⟩⟩] [] 100663296)
 (.region [⟨true, ⟨(some 27), .mov (.t 5), [], none⟩⟩,
   ⟨true, ⟨(some 28), .mov (.t 6), [], none⟩⟩,
   ⟨true, ⟨(some 29), .faddr 1 (.t 1), [], none⟩⟩,
   ⟨true, ⟨(some 30), .load none (.t 29), [2], none⟩⟩,
   ⟨true, ⟨(some 31), .len 1 (.t 30), [3], none⟩⟩,
   ⟨true, ⟨(some 32), .mkslice .dyn 1 8 [(.int .i64 (.ofNat 0))] (.t 31) (.t 31), [4, 4], none⟩⟩,
   ⟨true, ⟨(some 33), .iaddr none 1 (.t 27) (.t 28), [0, 1, 0, 1, 2, 3, 4, 5], none⟩⟩,
   ⟨false, ⟨none, .store 1 (.t 33) (.t 32), [6, 5, 0, 1, 2, 3, 4, 5], none⟩⟩] [] 17045651520)))
 (.region [⟨true, ⟨(some 34), .bin .add (.t 24) (.c (.int .i64 (.ofNat 1))), [], none⟩⟩,
   ⟨false, ⟨(some 24), .mov (.t 34), [0], none⟩⟩] [] 17179869184)))))))
 (.seq (.seq (.region [⟨true, ⟨(some 35), .faddr 1 (.t 1), [], none⟩⟩,
   ⟨true, ⟨(some 36), .load none (.t 35), [0], none⟩⟩,
   ⟨true, ⟨(some 37), .len 1 (.t 36), [1], none⟩⟩,
   ⟨true, ⟨(some 38), .mov (.c (.int .i64 (.ofNat 0))), [], none⟩⟩] [] 34384904194)
 (.block 2 (.loop (.seq (.region [⟨true, ⟨(some 39), .bin .lss (.t 38) (.t 37), [], none⟩⟩] [] 0)
 (.seq (.cond (.t 39)
  .skip
  (.exit 2))
 (.seq (.block 3 (.seq (.region [⟨true, ⟨(some 40), .mov (.t 38), [], none⟩⟩,
   ⟨true, ⟨(some 41), .iaddr none 3 (.t 36) (.t 38), [], none⟩⟩,
   ⟨true, ⟨(some 42), .load (some 3) (.t 41), [1], none⟩⟩,
   ⟨true, ⟨(some 8), .alloc .dyn (.agg [(.int .i64 (.ofNat 0)), .nilsl, .nilsl]), [], none⟩⟩,
   ⟨true, ⟨(some 7), .mov (.t 40), [0, 0, 1, 2, 3], none⟩⟩,
   ⟨false, ⟨none, .store 3 (.t 8) (.t 42), [3, 2, 4, 0, 1, 2, 3, 4], none⟩⟩] [] 8246337208320)
 (.seq (.seq (.region [⟨true, ⟨(some 43), .faddr 1 (.t 8), [], none⟩⟩,
   ⟨true, ⟨(some 44), .load none (.t 43), [0], none⟩⟩,
   ⟨true, ⟨(some 45), .len 1 (.t 44), [1], none⟩⟩,
   ⟨true, ⟨(some 46), .mov (.c (.int .i64 (.ofNat 0))), [], none⟩⟩] [] 8796093022208)
 (.block 4 (.loop (.seq (.region [⟨true, ⟨(some 47), .bin .lss (.t 46) (.t 45), [], none⟩⟩] [] 0)
 (.seq (.cond (.t 47)
  .skip
  (.exit 4))
 (.seq (.block 5 (.seq (.region [⟨true, ⟨(some 48), .iaddr none 2 (.t 44) (.t 46), [], none⟩⟩,
   ⟨true, ⟨(some 49), .load (some 2) (.t 48), [0], none⟩⟩,
   ⟨true, ⟨(some 10), .alloc .dyn (.agg [(.int .i64 (.ofNat 0)), (.int .i64 (.ofNat 0))]), [], none⟩⟩,
   ⟨false, ⟨none, .store 2 (.t 10) (.t 49), [2, 1, 0, 1, 2], none⟩⟩] [] 985162418487296)
 (.region [⟨true, ⟨(some 50), .mov (.t 5), [], none⟩⟩,
   ⟨true, ⟨(some 51), .faddr 0 (.t 10), [], none⟩⟩,
   ⟨true, ⟨(some 52), .load none (.t 51), [1], none⟩⟩,
   ⟨true, ⟨(some 53), .iaddr none 1 (.t 50) (.t 52), [0, 2], none⟩⟩,
   ⟨true, ⟨(some 54), .load none (.t 53), [3], none⟩⟩,
   ⟨true, ⟨(some 55), .mov (.t 7), [], none⟩⟩,
   ⟨true, ⟨(some 56), .iaddr none 1 (.t 54) (.t 55), [4, 5], none⟩⟩,
   ⟨true, ⟨(some 57), .load none (.t 56), [6], none⟩⟩,
   ⟨true, ⟨(some 58), .faddr 1 (.t 10), [], none⟩⟩,
   ⟨true, ⟨(some 59), .load none (.t 58), [8], none⟩⟩,
   ⟨true, ⟨(some 60), .bin .sub (.t 57) (.t 59), [7, 9], none⟩⟩,
   ⟨true, ⟨(some 61), .iaddr none 1 (.t 54) (.t 55), [4, 5, 0, 1, 2, 3, 4, 5, 6, 7, 8, 9, 10], none⟩⟩,
   ⟨false, ⟨none, .store 1 (.t 61) (.t 60), [11, 10, 0, 1, 2, 3, 4, 5, 6, 7, 8, 9, 10], none⟩⟩] [] 4610560118520546304)))
 (.region [⟨true, ⟨(some 62), .bin .add (.t 46) (.c (.int .i64 (.ofNat 1))), [], none⟩⟩,
   ⟨false, ⟨(some 46), .mov (.t 62), [0], none⟩⟩] [] 4611686018427387904)))))))
 (.seq (.region [⟨true, ⟨(some 63), .faddr 2 (.t 8), [], none⟩⟩,
   ⟨true, ⟨(some 64), .load none (.t 63), [0], none⟩⟩,
   ⟨true, ⟨(some 65), .len 1 (.t 64), [1], none⟩⟩,
   ⟨true, ⟨(some 66), .mov (.c (.int .i64 (.ofNat 0))), [], none⟩⟩] [] 9223495182157086976)
 (.block 6 (.loop (.seq (.region [⟨true, ⟨(some 67), .bin .lss (.t 66) (.t 65), [], none⟩⟩] [] 0)
 (.seq (.cond (.t 67)
  .skip
  (.exit 6))
 (.seq (.block 7 (.seq (.region [⟨true, ⟨(some 68), .iaddr none 2 (.t 64) (.t 66), [], none⟩⟩,
   ⟨true, ⟨(some 69), .load (some 2) (.t 68), [0], none⟩⟩,
   ⟨true, ⟨(some 12), .alloc .dyn (.agg [(.int .i64 (.ofNat 0)), (.int .i64 (.ofNat 0))]), [], none⟩⟩,
   ⟨false, ⟨none, .store 2 (.t 12) (.t 69), [2, 1, 0, 1, 2], none⟩⟩] [] 1033017668127734890496)
 (.region [⟨true, ⟨(some 70), .mov (.t 5), [], none⟩⟩,
   ⟨true, ⟨(some 71), .faddr 0 (.t 12), [], none⟩⟩,
   ⟨true, ⟨(some 72), .load none (.t 71), [1], none⟩⟩,
   ⟨true, ⟨(some 73), .iaddr none 1 (.t 70) (.t 72), [0, 2], none⟩⟩,
   ⟨true, ⟨(some 74), .load none (.t 73), [3], none⟩⟩,
   ⟨true, ⟨(some 75), .mov (.t 7), [], none⟩⟩,
   ⟨true, ⟨(some 76), .iaddr none 1 (.t 74) (.t 75), [4, 5], none⟩⟩,
   ⟨true, ⟨(some 77), .load none (.t 76), [6], none⟩⟩,
   ⟨true, ⟨(some 78), .faddr 1 (.t 12), [], none⟩⟩,
   ⟨true, ⟨(some 79), .load none (.t 78), [8], none⟩⟩,
   ⟨true, ⟨(some 80), .bin .add (.t 77) (.t 79), [7, 9], none⟩⟩,
   ⟨true, ⟨(some 81), .iaddr none 1 (.t 74) (.t 75), [4, 5, 0, 1, 2, 3, 4, 5, 6, 7, 8, 9, 10], none⟩⟩,
   ⟨false, ⟨none, .store 1 (.t 81) (.t 80), [11, 10, 0, 1, 2, 3, 4, 5, 6, 7, 8, 9, 10], none⟩⟩] [] 4834522686837799287525376)))
 (.region [⟨true, ⟨(some 82), .bin .add (.t 66) (.c (.int .i64 (.ofNat 1))), [], none⟩⟩,
   ⟨false, ⟨(some 66), .mov (.t 82), [0], none⟩⟩] [] 4835703278458516698824704))))))))))
 (.region [⟨true, ⟨(some 83), .bin .add (.t 38) (.c (.int .i64 (.ofNat 1))), [], none⟩⟩,
   ⟨false, ⟨(some 38), .mov (.t 83), [0], none⟩⟩] [] 9671535684125549364510848)))))))
 (.seq (.region [⟨true, ⟨(some 84), .mov (.t 5), [], none⟩⟩,
   ⟨true, ⟨(some 2), .mov (.t 84), [0, 0], none⟩⟩,
   ⟨true, ⟨(some 3), .mov (.c (.int .i64 (.ofNat 0))), [1, 0, 1], none⟩⟩] [] 19342813113834547831636000)
 .ret))))))⟩
def f42 : FFn := ⟨5, [.tmp 2],
 (.seq (.region [⟨true, ⟨(some 2), .mov (.c (.int .i64 (.ofNat 0))), [], none⟩⟩] [] 4)
 (.seq (.seq (.region [⟨true, ⟨(some 3), .mov (.t 0), [], none⟩⟩,
   ⟨true, ⟨(some 4), .call .heap (.f 59) [(.t 3), (.f 60)], [0], none⟩⟩] [] 9)
 (.cond (.t 4)
  (.seq (.region [⟨true, ⟨(some 2), .mov (.c (.int .i64 (.ofNat 2))), [], none⟩⟩] [] 16)
  .ret)
  .skip))
 (.seq (.region [⟨false, ⟨(some 2), .mov (.c (.int .i64 (.ofNat 0))), [], none⟩⟩] [] 16)
 .ret)))⟩
def f43 : FFn := ⟨21, [.tmp 2],
 (.seq (.region [⟨true, ⟨(some 2), .mov (.c .nilsl), [], none⟩⟩] [] 4)
 (.seq (.region [⟨true, ⟨(some 3), .mov (.c .nilsl), [], none⟩⟩] [] 0)
 (.seq (.seq (.region [⟨true, ⟨(some 6), .mov (.t 0), [], none⟩⟩,
   ⟨true, ⟨(some 7), .len 1 (.t 6), [0], none⟩⟩,
   ⟨true, ⟨(some 8), .mov (.c (.int .i64 (.ofNat 0))), [], none⟩⟩] [] 1)
 (.block 0 (.loop (.seq (.region [⟨true, ⟨(some 9), .bin .lss (.t 8) (.t 7), [], none⟩⟩] [] 0)
 (.seq (.cond (.t 9)
  .skip
  (.exit 0))
 (.seq (.block 1 (.seq (.region [⟨true, ⟨(some 10), .mov (.t 8), [], none⟩⟩,
   ⟨true, ⟨(some 11), .iaddr none 1 (.t 6) (.t 8), [], none⟩⟩,
   ⟨true, ⟨(some 12), .load none (.t 11), [1], none⟩⟩,
   ⟨true, ⟨(some 4), .mov (.t 10), [0, 0, 1, 2], none⟩⟩,
   ⟨true, ⟨(some 5), .mov (.t 12), [2, 3, 0, 1, 2, 3], none⟩⟩] [] 7680)
 (.seq (.region [⟨true, ⟨(some 13), .mov (.t 5), [], none⟩⟩,
   ⟨true, ⟨(some 14), .bin .neq (.t 13) (.c (.int .i64 (.ofNat 0))), [0], none⟩⟩] [] 8224)
 (.cond (.t 14)
  (.region [⟨true, ⟨(some 15), .mov (.t 3), [], none⟩⟩,
    ⟨true, ⟨(some 16), .mov (.t 4), [], none⟩⟩,
    ⟨true, ⟨(some 17), .bslice false .dyn 1 1 [(.int .i64 (.ofNat 0))] [(0, 1, (.t 16))], [1], none⟩⟩,
    ⟨true, ⟨(some 18), .append .dyn 1 8 (.t 15) (.t 17), [0, 2], none⟩⟩,
    ⟨false, ⟨(some 3), .mov (.t 18), [3, 3, 0, 1, 2, 3], none⟩⟩] [] 507920)
  .skip))))
 (.region [⟨true, ⟨(some 19), .bin .add (.t 8) (.c (.int .i64 (.ofNat 1))), [], none⟩⟩,
   ⟨false, ⟨(some 8), .mov (.t 19), [0], none⟩⟩] [] 540688)))))))
 (.seq (.region [⟨true, ⟨(some 20), .mov (.t 3), [], none⟩⟩,
   ⟨true, ⟨(some 2), .mov (.t 20), [0, 0], none⟩⟩] [] 1049032)
 .ret))))⟩
def f44 : FFn := ⟨15, [.tmp 2, .tmp 3, .tmp 4],
 (.seq (.region [⟨true, ⟨(some 2), .mov (.c (.int .i64 (.ofNat 0))), [], none⟩⟩,
   ⟨true, ⟨(some 3), .mov (.c (.int .i64 (.ofNat 0))), [0], none⟩⟩,
   ⟨true, ⟨(some 4), .mov (.c (.int .i64 (.ofNat 0))), [1], none⟩⟩] [] 28)
 (.seq (.seq (.region [⟨true, ⟨(some 5), .mov (.t 0), [], none⟩⟩] [] 1)
 (.block 0 (.seq (.region [⟨true, ⟨(some 7), .bin .eql (.t 5) (.c (.int .i64 (.ofNat 1))), [], none⟩⟩,
   ⟨true, ⟨(some 6), .mov (.t 7), [0], none⟩⟩] [] 128)
 (.cond (.t 6)
  (.seq (.region [⟨true, ⟨(some 2), .mov (.c (.int .i64 (.ofNat 1))), [], none⟩⟩,
    ⟨true, ⟨(some 3), .mov (.c (.int .i64 (.ofNat 8))), [0, 0], none⟩⟩,
    ⟨true, ⟨(some 4), .mov (.c (.int .i64 (.ofNat 0))), [1, 0, 1], none⟩⟩] [] 96)
  .ret)
  (.seq (.seq (.region [⟨true, ⟨(some 9), .bin .eql (.t 5) (.c (.int .i64 (.ofNat 2))), [], none⟩⟩,
    ⟨true, ⟨(some 8), .mov (.t 9), [0], none⟩⟩] [] 576)
  (.cond (.t 8)
   .skip
   (.region [⟨true, ⟨(some 10), .bin .eql (.t 5) (.c (.int .i64 (.ofNat 5))), [], none⟩⟩,
     ⟨false, ⟨(some 8), .mov (.t 10), [0], none⟩⟩] [] 1024)))
  (.cond (.t 8)
   (.seq (.region [⟨true, ⟨(some 2), .mov (.c (.int .i64 (.ofNat 2))), [], none⟩⟩,
     ⟨true, ⟨(some 3), .mov (.c (.int .i64 (.ofNat 6))), [0, 0], none⟩⟩,
     ⟨true, ⟨(some 4), .mov (.c (.int .i64 (.ofNat 0))), [1, 0, 1], none⟩⟩] [] 288)
   .ret)
   (.seq (.region [⟨true, ⟨(some 12), .bin .eql (.t 5) (.c (.int .i64 (.ofNat 3))), [], none⟩⟩,
     ⟨true, ⟨(some 11), .mov (.t 12), [0], none⟩⟩] [] 4352)
   (.cond (.t 11)
    (.seq (.region [⟨true, ⟨(some 2), .mov (.c (.int .i64 (.ofNat 2))), [], none⟩⟩,
      ⟨true, ⟨(some 3), .mov (.c (.int .i64 (.ofNat 4))), [0, 0], none⟩⟩,
      ⟨true, ⟨(some 4), .mov (.c (.int .i64 (.ofNat 0))), [1, 0, 1], none⟩⟩] [] 2080)
    .ret)
    (.seq (.region [⟨true, ⟨(some 14), .bin .eql (.t 5) (.c (.int .i64 (.ofNat 4))), [], none⟩⟩,
      ⟨true, ⟨(some 13), .mov (.t 14), [0], none⟩⟩] [] 18464)
    (.cond (.t 13)
     (.seq (.region [⟨true, ⟨(some 2), .mov (.c (.int .i64 (.ofNat 2))), [], none⟩⟩,
       ⟨true, ⟨(some 3), .mov (.c (.int .i64 (.ofNat 8))), [0, 0], none⟩⟩,
       ⟨true, ⟨(some 4), .mov (.c (.int .i64 (.ofNat 0))), [1, 0, 1], none⟩⟩] [] 8192)
     .ret)
     .skip))))))))))
 (.seq (.region [⟨false, ⟨(some 2), .mov (.c (.int .i64 (.ofNat 0))), [], none⟩⟩,
   ⟨false, ⟨(some 3), .mov (.c (.int .i64 (.ofNat 0))), [0, 0], none⟩⟩,
   ⟨false, ⟨(some 4), .mov (.c (.int .i64 (.ofNat 11))), [1, 0, 1], none⟩⟩] [] 8192)
 .ret)))⟩
def f45 : FFn := ⟨36, [.tmp 4],
 (.seq (.region [⟨true, ⟨(some 4), .mov (.c .nilsl), [], none⟩⟩] [] 16)
 (.seq (.region [⟨true, ⟨(some 5), .mov (.c .nilsl), [], none⟩⟩] [] 0)
 (.seq (.seq (.region [⟨true, ⟨(some 9), .mov (.t 0), [], none⟩⟩,
   ⟨true, ⟨(some 10), .mov (.c (.int .i64 (.ofNat 0))), [], none⟩⟩] [] 1)
 (.block 0 (.loop (.seq (.region [⟨true, ⟨(some 11), .bin .lss (.t 10) (.t 9), [], none⟩⟩] [] 0)
 (.seq (.cond (.t 11)
  .skip
  (.exit 0))
 (.seq (.block 1 (.seq (.region [⟨true, ⟨(some 12), .mov (.t 10), [], none⟩⟩,
   ⟨true, ⟨(some 6), .mov (.t 12), [0, 0], none⟩⟩] [] 6144)
 (.seq (.region [⟨true, ⟨(some 13), .mov (.t 1), [], none⟩⟩,
   ⟨true, ⟨(some 14), .len 1 (.t 13), [0], none⟩⟩,
   ⟨true, ⟨(some 15), .mov (.c (.int .i64 (.ofNat 0))), [], none⟩⟩] [] 0)
 (.block 2 (.loop (.seq (.region [⟨true, ⟨(some 16), .bin .lss (.t 15) (.t 14), [], none⟩⟩] [] 0)
 (.seq (.cond (.t 16)
  .skip
  (.exit 2))
 (.seq (.block 3 (.seq (.region [⟨true, ⟨(some 17), .mov (.t 15), [], none⟩⟩,
   ⟨true, ⟨(some 18), .iaddr none 1 (.t 13) (.t 15), [], none⟩⟩,
   ⟨true, ⟨(some 19), .load none (.t 18), [1], none⟩⟩,
   ⟨true, ⟨(some 7), .mov (.t 17), [0, 0, 1, 2], none⟩⟩,
   ⟨true, ⟨(some 8), .mov (.t 19), [2, 3, 0, 1, 2, 3], none⟩⟩] [] 983040)
 (.region [⟨true, ⟨(some 20), .mov (.t 5), [], none⟩⟩,
   ⟨true, ⟨(some 21), .mov (.t 8), [], none⟩⟩,
   ⟨true, ⟨(some 22), .mov (.t 6), [], none⟩⟩,
   ⟨true, ⟨(some 23), .call .heap (.f 47) [(.t 22)], [2], none⟩⟩,
   ⟨true, ⟨(some 24), .bin .add (.t 21) (.t 23), [1, 3], none⟩⟩,
   ⟨true, ⟨(some 25), .mov (.t 7), [], none⟩⟩,
   ⟨true, ⟨(some 26), .mov (.t 1), [], none⟩⟩,
   ⟨true, ⟨(some 27), .len 1 (.t 26), [6], none⟩⟩,
   ⟨true, ⟨(some 28), .bin .sub (.t 27) (.c (.int .i64 (.ofNat 1))), [7], none⟩⟩,
   ⟨true, ⟨(some 29), .bin .lss (.t 25) (.t 28), [5, 8], none⟩⟩,
   ⟨true, ⟨(some 30), .build [(.str []), (.bool false), (.bool false), (.bool false), (.int .i64 (.ofNat 0))] [(0, 1, (.t 24)), (1, 1, (.t 29)), (2, 1, (.c (.bool true)))], [4, 9], none⟩⟩,
   ⟨true, ⟨(some 31), .bslice false .dyn 5 1 [(.str []), (.bool false), (.bool false), (.bool false), (.int .i64 (.ofNat 0))] [(0, 5, (.t 30))], [10], none⟩⟩,
   ⟨true, ⟨(some 32), .append .dyn 5 32 (.t 20) (.t 31), [0, 11, 3], none⟩⟩,
   ⟨false, ⟨(some 5), .mov (.t 32), [12, 12, 0, 1, 2, 3, 4, 5, 6, 7, 8, 9, 10, 11, 12], none⟩⟩] [] 8588886400)))
 (.region [⟨true, ⟨(some 33), .bin .add (.t 15) (.c (.int .i64 (.ofNat 1))), [], none⟩⟩,
   ⟨false, ⟨(some 15), .mov (.t 33), [0], none⟩⟩] [] 8589934592)))))))))
 (.region [⟨true, ⟨(some 34), .bin .add (.t 10) (.c (.int .i64 (.ofNat 1))), [], none⟩⟩,
   ⟨false, ⟨(some 10), .mov (.t 34), [0], none⟩⟩] [] 17179926592)))))))
 (.seq (.region [⟨true, ⟨(some 35), .mov (.t 5), [], none⟩⟩,
   ⟨true, ⟨(some 4), .mov (.t 35), [0, 0], none⟩⟩] [] 34359739938)
 .ret))))⟩
def f46 : FFn := ⟨28, [.cell 4 (some 5)],
 (.seq (.region [⟨true, ⟨(some 4), .alloc .dyn (.agg [(.str []), .nilsl, (.int .i64 (.ofNat 0)), .nilsl, .nilsl]), [], none⟩⟩] [] 0)
 (.seq (.region [⟨true, ⟨(some 6), .mov (.t 1), [], none⟩⟩,
   ⟨true, ⟨(some 7), .bin .mul (.c (.int .i64 (.ofNat 2))) (.t 6), [0], none⟩⟩,
   ⟨true, ⟨(some 8), .mov (.t 1), [], none⟩⟩,
   ⟨true, ⟨(some 9), .bin .mul (.c (.int .i64 (.ofNat 2))) (.t 8), [2], none⟩⟩,
   ⟨true, ⟨(some 10), .bin .add (.t 9) (.c (.int .i64 (.ofNat 1))), [3], none⟩⟩,
   ⟨true, ⟨(some 11), .bslice false .dyn 1 2 [(.int .i64 (.ofNat 0)), (.int .i64 (.ofNat 0))] [(0, 1, (.t 7)), (1, 1, (.t 10))], [1, 4], none⟩⟩,
   ⟨true, ⟨(some 12), .bslice false .dyn 1 1 [(.int .i64 (.ofNat 0))] [(0, 1, (.c (.int .i64 (.ofNat 0))))], [], none⟩⟩,
   ⟨true, ⟨(some 13), .mov (.t 1), [], none⟩⟩,
   ⟨true, ⟨(some 14), .bin .mul (.c (.int .i64 (.ofNat 2))) (.t 13), [7], none⟩⟩,
   ⟨true, ⟨(some 15), .build [(.int .i64 (.ofNat 0)), (.int .i64 (.ofNat 0)), (.int .i64 (.ofNat 0))] [(0, 1, (.c (.int .i64 (.ofNat 0)))), (1, 1, (.t 14)), (2, 1, (.c (.int .i64 (.ofNat 1))))], [8], none⟩⟩,
   ⟨true, ⟨(some 16), .mov (.t 1), [], none⟩⟩,
   ⟨true, ⟨(some 17), .bin .mul (.c (.int .i64 (.ofNat 2))) (.t 16), [10], none⟩⟩,
   ⟨true, ⟨(some 18), .bin .add (.t 17) (.c (.int .i64 (.ofNat 1))), [11], none⟩⟩,
   ⟨true, ⟨(some 19), .build [(.int .i64 (.ofNat 0)), (.int .i64 (.ofNat 0)), (.int .i64 (.ofNat 0))] [(0, 1, (.c (.int .i64 (.ofNat 1)))), (1, 1, (.t 18)), (2, 1, (.c (.int .i64 (.ofNat 0))))], [12], none⟩⟩,
   ⟨true, ⟨(some 20), .bslice false .dyn 3 2 [(.int .i64 (.ofNat 0)), (.int .i64 (.ofNat 0)), (.int .i64 (.ofNat 0)), (.int .i64 (.ofNat 0)), (.int .i64 (.ofNat 0)), (.int .i64 (.ofNat 0))] [(0, 3, (.t 15)), (3, 3, (.t 19))], [9, 13], none⟩⟩,
   ⟨true, ⟨(some 21), .build [.nilsl, (.int .i64 (.ofNat 0)), .nilsl, .nilsl] [(0, 1, (.t 11)), (1, 1, (.c (.int .i64 (.ofNat 2)))), (2, 1, (.t 12)), (3, 1, (.t 20))], [5, 6, 14], none⟩⟩,
   ⟨true, ⟨(some 5), .alloc .dyn (.agg [.nilsl, (.int .i64 (.ofNat 0)), .nilsl, .nilsl]), [], none⟩⟩,
   ⟨false, ⟨none, .store 4 (.t 5) (.t 21), [16, 15, 0, 1, 2, 3, 4, 5, 6, 7, 8, 9, 10, 11, 12, 13, 14, 15, 16], none⟩⟩] [] 4194240)
 (.seq (.region [⟨true, ⟨(some 22), .mov (.t 0), [], none⟩⟩,
   ⟨true, ⟨(some 23), .mov (.t 1), [], none⟩⟩,
   ⟨true, ⟨(some 24), .call .pure (.f 47) [(.t 23)], [1], none⟩⟩,
   ⟨true, ⟨(some 25), .bin .add (.t 22) (.t 24), [0, 2], none⟩⟩,
   ⟨true, ⟨(some 26), .load (some 4) (.t 5), [], none⟩⟩,
   ⟨true, ⟨(some 27), .build [(.str []), .nilsl, (.int .i64 (.ofNat 0)), .nilsl, .nilsl] [(0, 1, (.t 25)), (1, 4, (.t 26))], [3, 4], none⟩⟩,
   ⟨false, ⟨none, .store 5 (.t 4) (.t 27), [5, 2, 0, 1, 2, 3, 4, 5], none⟩⟩] [] 264241187)
 .ret)))⟩
def f47 : FFn := ⟨5, [.tmp 2],
 (.seq (.region [⟨true, ⟨(some 2), .mov (.c (.str [])), [], none⟩⟩] [] 4)
 (.seq (.region [⟨true, ⟨(some 3), .mov (.t 0), [], none⟩⟩,
   ⟨true, ⟨(some 4), .call .heap (.f 61) [(.t 3)], [0], none⟩⟩,
   ⟨true, ⟨(some 2), .mov (.t 4), [1, 1, 0, 1], none⟩⟩] [] 25)
 .ret))⟩
def f48 : FFn := ⟨134, [],
 (.seq (.region [⟨true, ⟨(some 8), .mov (.c (.bool true)), [], none⟩⟩] [] 0)
 (.seq (.region [⟨true, ⟨(some 9), .mov (.c (.bool true)), [], none⟩⟩] [] 0)
 (.block 0 (.loop (.block 1 (.seq (.region [⟨true, ⟨(some 19), .mov (.t 2), [], none⟩⟩,
   ⟨true, ⟨(some 20), .mov (.t 1), [], none⟩⟩,
   ⟨true, ⟨(some 21), .bin .sub (.t 19) (.t 20), [0, 1], none⟩⟩,
   ⟨true, ⟨(some 10), .mov (.t 21), [2, 0, 1, 2], none⟩⟩] [] 3670016)
 (.seq (.seq (.region [⟨true, ⟨(some 22), .mov (.t 10), [], none⟩⟩,
   ⟨true, ⟨(some 23), .bin .leq (.t 22) (.c (.int .i64 (.ofNat 12))), [0], none⟩⟩] [] 4194304)
 (.cond (.t 23)
  (.seq (.region [⟨true, ⟨(some 24), .mov (.t 0), [], none⟩⟩,
    ⟨true, ⟨(some 25), .mov (.t 1), [], none⟩⟩,
    ⟨true, ⟨(some 26), .mov (.t 2), [], none⟩⟩,
    ⟨true, ⟨(some 27), .call .heap (.f 62) [(.t 24), (.t 25), (.t 26)], [0, 1, 2], none⟩⟩] [] 154667177631247541668415247)
  .ret)
  .skip))
 (.seq (.seq (.region [⟨true, ⟨(some 28), .mov (.t 3), [], none⟩⟩,
   ⟨true, ⟨(some 29), .bin .eql (.t 28) (.c (.int .i64 (.ofNat 0))), [0], none⟩⟩] [] 276824064)
 (.cond (.t 29)
  (.seq (.region [⟨true, ⟨(some 30), .mov (.t 0), [], none⟩⟩,
    ⟨true, ⟨(some 31), .mov (.t 1), [], none⟩⟩,
    ⟨true, ⟨(some 32), .mov (.t 2), [], none⟩⟩,
    ⟨true, ⟨(some 33), .call .heap (.f 63) [(.t 30), (.t 31), (.t 32)], [0, 1, 2], none⟩⟩] [] 154667177631247558051366671)
  .ret)
  .skip))
 (.seq (.seq (.region [⟨true, ⟨(some 34), .mov (.t 8), [], none⟩⟩,
   ⟨true, ⟨(some 35), .un .not (.t 34), [0], none⟩⟩] [] 17716740096)
 (.cond (.t 35)
  (.seq (.region [⟨true, ⟨(some 36), .mov (.t 0), [], none⟩⟩,
    ⟨true, ⟨(some 37), .mov (.t 1), [], none⟩⟩,
    ⟨true, ⟨(some 38), .mov (.t 2), [], none⟩⟩,
    ⟨true, ⟨(some 39), .call .heap (.f 64) [(.t 36), (.t 37), (.t 38)], [0, 1, 2], none⟩⟩] [] 1065151889408)
  (.region [⟨true, ⟨(some 40), .mov (.t 3), [], none⟩⟩,
    ⟨true, ⟨(some 41), .bin .sub (.t 40) (.c (.int .i64 (.ofNat 1))), [0], none⟩⟩,
    ⟨false, ⟨(some 3), .mov (.t 41), [1, 0, 1], none⟩⟩] [] 3298534883328))
  .skip))
 (.seq (.region [⟨true, ⟨(some 43), .mov (.t 0), [], none⟩⟩,
   ⟨true, ⟨(some 44), .mov (.t 1), [], none⟩⟩,
   ⟨true, ⟨(some 45), .mov (.t 2), [], none⟩⟩,
   ⟨true, ⟨(some 46), .call .heap (.f 65) [(.t 43), (.t 44), (.t 45)], [0, 1, 2], none⟩⟩,
   ⟨true, ⟨(some 42), .mov (.t 46), [3], none⟩⟩,
   ⟨true, ⟨(some 47), .extract 0 (.t 42), [4], none⟩⟩,
   ⟨true, ⟨(some 48), .extract 1 (.t 42), [4], none⟩⟩,
   ⟨true, ⟨(some 11), .mov (.t 47), [5, 3, 0, 1, 2, 3, 4, 5], none⟩⟩,
   ⟨true, ⟨(some 12), .mov (.t 48), [6, 7, 0, 1, 2, 3, 4, 5, 6, 7], none⟩⟩] [] 558586266648576)
 (.seq (.seq (.region [⟨true, ⟨(some 49), .mov (.t 12), [], none⟩⟩,
   ⟨true, ⟨(some 50), .bin .eql (.t 49) (.c (.int .i64 (.ofNat 2))), [0], none⟩⟩] [] 562949953421312)
 (.cond (.t 50)
  (.seq (.region [⟨true, ⟨(some 51), .mov (.t 0), [], none⟩⟩,
    ⟨true, ⟨(some 52), .mov (.t 1), [], none⟩⟩,
    ⟨true, ⟨(some 53), .mov (.t 2), [], none⟩⟩,
    ⟨true, ⟨(some 54), .call .heap (.f 66) [(.t 51), (.t 52), (.t 53)], [0, 1, 2], none⟩⟩] [] 34902897112125440)
  (.seq (.region [⟨true, ⟨(some 55), .mov (.t 2), [], none⟩⟩,
    ⟨true, ⟨(some 56), .bin .sub (.t 55) (.c (.int .i64 (.ofNat 1))), [0], none⟩⟩,
    ⟨true, ⟨(some 57), .mov (.t 11), [], none⟩⟩,
    ⟨true, ⟨(some 58), .mov (.t 1), [], none⟩⟩,
    ⟨true, ⟨(some 59), .bin .sub (.t 57) (.t 58), [2, 3], none⟩⟩,
    ⟨true, ⟨(some 60), .bin .sub (.t 56) (.t 59), [1, 4], none⟩⟩,
    ⟨false, ⟨(some 11), .mov (.t 60), [5, 0, 1, 2, 3, 4, 5], none⟩⟩] [] 2269814212194729984)
  (.region [⟨true, ⟨(some 12), .mov (.c (.int .i64 (.ofNat 1))), [], none⟩⟩] [] 0)))
  .skip))
 (.seq (.seq (.region [⟨true, ⟨(some 61), .mov (.t 8), [], none⟩⟩,
   ⟨true, ⟨(some 62), .mov (.t 61), [0], none⟩⟩,
   ⟨false, ⟨(some 63), .mov (.t 9), [1], (some (62, true))⟩⟩,
   ⟨true, ⟨(some 64), .pick (.t 62) (.t 63) (.c (.bool false)), [1, 2], none⟩⟩,
   ⟨true, ⟨(some 65), .mov (.t 64), [3, 1], none⟩⟩,
   ⟨false, ⟨(some 66), .mov (.t 12), [4], (some (65, true))⟩⟩,
   ⟨false, ⟨(some 67), .bin .eql (.t 66) (.c (.int .i64 (.ofNat 1))), [5, 4], (some (65, true))⟩⟩,
   ⟨true, ⟨(some 68), .pick (.t 65) (.t 67) (.c (.bool false)), [4, 6], none⟩⟩] [] 62258887148676583424)
 (.cond (.t 68)
  (.seq (.region [⟨true, ⟨(some 69), .mov (.t 0), [], none⟩⟩,
    ⟨true, ⟨(some 70), .mov (.t 1), [], none⟩⟩,
    ⟨true, ⟨(some 71), .mov (.t 2), [], none⟩⟩,
    ⟨true, ⟨(some 72), .call .heap (.f 67) [(.t 69), (.t 70), (.t 71)], [0, 1, 2], none⟩⟩] [] 4427218577690292387840)
  (.cond (.t 72)
   .ret
   .skip))
  .skip))
 (.seq (.seq (.region [⟨true, ⟨(some 73), .mov (.t 1), [], none⟩⟩,
   ⟨true, ⟨(some 74), .bin .gtr (.t 73) (.c (.int .i64 (.ofNat 0))), [0], none⟩⟩,
   ⟨true, ⟨(some 75), .mov (.t 74), [1], none⟩⟩,
   ⟨false, ⟨(some 76), .mov (.t 0), [2], (some (75, true))⟩⟩,
   ⟨false, ⟨(some 77), .mov (.t 1), [2], (some (75, true))⟩⟩,
   ⟨false, ⟨(some 78), .bin .sub (.t 77) (.c (.int .i64 (.ofNat 1))), [4, 2], (some (75, true))⟩⟩,
   ⟨false, ⟨(some 79), .iaddr none 1 (.t 76) (.t 78), [3, 5, 2], (some (75, true))⟩⟩,
   ⟨false, ⟨(some 80), .load none (.t 79), [6, 2], (some (75, true))⟩⟩,
   ⟨false, ⟨(some 81), .mov (.t 0), [2], (some (75, true))⟩⟩,
   ⟨false, ⟨(some 82), .mov (.t 11), [2], (some (75, true))⟩⟩,
   ⟨false, ⟨(some 83), .iaddr none 1 (.t 81) (.t 82), [8, 9, 2], (some (75, true))⟩⟩,
   ⟨false, ⟨(some 84), .load none (.t 83), [10, 2], (some (75, true))⟩⟩,
   ⟨false, ⟨(some 85), .call .heap (.f 68) [(.t 80), (.t 84)], [7, 11, 2, 2], (some (75, true))⟩⟩,
   ⟨false, ⟨(some 86), .un .not (.t 85), [12, 2], (some (75, true))⟩⟩,
   ⟨true, ⟨(some 87), .pick (.t 75) (.t 86) (.c (.bool false)), [2, 13], none⟩⟩] [] 71130645148224031031296)
 (.cond (.t 87)
  (.seq (.region [⟨true, ⟨(some 88), .mov (.t 0), [], none⟩⟩,
    ⟨true, ⟨(some 89), .mov (.t 1), [], none⟩⟩,
    ⟨true, ⟨(some 90), .mov (.t 2), [], none⟩⟩,
    ⟨true, ⟨(some 91), .mov (.t 11), [], none⟩⟩,
    ⟨true, ⟨(some 92), .call .heap (.f 69) [(.t 88), (.t 89), (.t 90), (.t 91)], [0, 1, 2, 3], none⟩⟩,
    ⟨true, ⟨(some 13), .mov (.t 92), [4, 4, 0, 1, 2, 3, 4], none⟩⟩] [] 9748777809372369664830606338)
  (.seq (.region [⟨true, ⟨(some 93), .mov (.t 13), [], none⟩⟩,
    ⟨true, ⟨(some 1), .mov (.t 93), [0, 0], none⟩⟩] [] 9903520314283042199193001984)
  (.exit 1)))
  .skip))
 (.seq (.region [⟨true, ⟨(some 95), .mov (.t 0), [], none⟩⟩,
   ⟨true, ⟨(some 96), .mov (.t 1), [], none⟩⟩,
   ⟨true, ⟨(some 97), .mov (.t 2), [], none⟩⟩,
   ⟨true, ⟨(some 98), .mov (.t 11), [], none⟩⟩,
   ⟨true, ⟨(some 99), .call .heap (.f 70) [(.t 95), (.t 96), (.t 97), (.t 98)], [0, 1, 2, 3], none⟩⟩,
   ⟨true, ⟨(some 94), .mov (.t 99), [4], none⟩⟩,
   ⟨true, ⟨(some 100), .extract 0 (.t 94), [5], none⟩⟩,
   ⟨true, ⟨(some 101), .extract 1 (.t 94), [5], none⟩⟩,
   ⟨true, ⟨(some 14), .mov (.t 100), [6, 4, 0, 1, 2, 3, 4, 5, 6], none⟩⟩,
   ⟨true, ⟨(some 15), .mov (.t 101), [7, 8, 0, 1, 2, 3, 4, 5, 6, 7, 8], none⟩⟩] [] 5050950102789262194122789227264)
 (.seq (.region [⟨true, ⟨(some 102), .mov (.t 15), [], none⟩⟩,
   ⟨true, ⟨(some 9), .mov (.t 102), [0, 0], none⟩⟩] [] 5070602400912917605986812854272)
 (.seq (.region [⟨true, ⟨(some 103), .mov (.t 14), [], none⟩⟩,
   ⟨true, ⟨(some 104), .mov (.t 1), [], none⟩⟩,
   ⟨true, ⟨(some 105), .bin .sub (.t 103) (.t 104), [0, 1], none⟩⟩,
   ⟨true, ⟨(some 106), .mov (.t 2), [], none⟩⟩,
   ⟨true, ⟨(some 107), .mov (.t 14), [], none⟩⟩,
   ⟨true, ⟨(some 108), .bin .sub (.t 106) (.t 107), [3, 4], none⟩⟩,
   ⟨true, ⟨(some 16), .mov (.t 105), [2, 0, 1, 2], none⟩⟩,
   ⟨true, ⟨(some 17), .mov (.t 108), [5, 6, 0, 1, 2, 3, 4, 5, 6], none⟩⟩] [] 638895902515027618354338415509504)
 (.seq (.region [⟨true, ⟨(some 109), .mov (.t 10), [], none⟩⟩,
   ⟨true, ⟨(some 110), .bin .quo (.t 109) (.c (.int .i64 (.ofNat 8))), [0], none⟩⟩,
   ⟨true, ⟨(some 18), .mov (.t 110), [1, 0, 1], none⟩⟩] [] 1947111321950560360698936123458560)
 (.seq (.region [⟨true, ⟨(some 111), .mov (.t 16), [], none⟩⟩,
   ⟨true, ⟨(some 112), .mov (.t 17), [], none⟩⟩,
   ⟨true, ⟨(some 113), .bin .lss (.t 111) (.t 112), [0, 1], none⟩⟩] [] 7788445287802241442795744493830144)
 (.cond (.t 113)
  (.seq (.region [⟨true, ⟨(some 114), .mov (.t 16), [], none⟩⟩,
    ⟨true, ⟨(some 115), .mov (.t 18), [], none⟩⟩,
    ⟨true, ⟨(some 116), .bin .geq (.t 114) (.t 115), [0, 1], none⟩⟩,
    ⟨true, ⟨(some 8), .mov (.t 116), [2, 0, 1, 2], none⟩⟩] [] 155768905756044828855914889877061632)
  (.seq (.region [⟨true, ⟨(some 117), .mov (.t 0), [], none⟩⟩,
    ⟨true, ⟨(some 118), .mov (.t 1), [], none⟩⟩,
    ⟨true, ⟨(some 119), .mov (.t 14), [], none⟩⟩,
    ⟨true, ⟨(some 120), .mov (.t 3), [], none⟩⟩,
    ⟨true, ⟨(some 121), .call .heap (.f 48) [(.t 117), (.t 118), (.t 119), (.t 120)], [0, 1, 2, 3], none⟩⟩] [] 5150758483666549007502252358586335234)
  (.region [⟨true, ⟨(some 122), .mov (.t 14), [], none⟩⟩,
    ⟨true, ⟨(some 123), .bin .add (.t 122) (.c (.int .i64 (.ofNat 1))), [0], none⟩⟩,
    ⟨true, ⟨(some 1), .mov (.t 123), [1, 0, 1], none⟩⟩] [] 15950735949418990474845684723364151296)))
  (.seq (.region [⟨true, ⟨(some 124), .mov (.t 17), [], none⟩⟩,
    ⟨true, ⟨(some 125), .mov (.t 18), [], none⟩⟩,
    ⟨true, ⟨(some 126), .bin .geq (.t 124) (.t 125), [0, 1], none⟩⟩,
    ⟨true, ⟨(some 8), .mov (.t 126), [2, 0, 1, 2], none⟩⟩] [] 148883920121627647420483451744057491456)
  (.seq (.region [⟨true, ⟨(some 127), .mov (.t 0), [], none⟩⟩,
    ⟨true, ⟨(some 128), .mov (.t 14), [], none⟩⟩,
    ⟨true, ⟨(some 129), .bin .add (.t 128) (.c (.int .i64 (.ofNat 1))), [1], none⟩⟩,
    ⟨true, ⟨(some 130), .mov (.t 2), [], none⟩⟩,
    ⟨true, ⟨(some 131), .mov (.t 3), [], none⟩⟩,
    ⟨true, ⟨(some 132), .call .heap (.f 48) [(.t 127), (.t 129), (.t 130), (.t 131)], [0, 2, 3, 4], none⟩⟩] [] 10718894558009561599096300134100698660868)
  (.region [⟨true, ⟨(some 133), .mov (.t 14), [], none⟩⟩,
    ⟨true, ⟨(some 2), .mov (.t 133), [0, 0], none⟩⟩] [] 10889035741470030830827987437816582782976))))))))))))))))))))))⟩
def f49 : FFn := ⟨8, [.tmp 2],
 (.seq (.region [⟨true, ⟨(some 2), .mov (.c (.int .i64 (.ofNat 0))), [], none⟩⟩] [] 4)
 (.seq (.cond (.c (.bool false))
  (.seq (.region [⟨true, ⟨(some 3), .mov (.t 0), [], none⟩⟩,
    ⟨true, ⟨(some 4), .conv .u32 (.t 3), [0], none⟩⟩,
    ⟨true, ⟨(some 5), .call .heap (.f 71) [(.t 4)], [1], none⟩⟩,
    ⟨true, ⟨(some 2), .mov (.t 5), [2, 2, 0, 1, 2], none⟩⟩] [] 57)
  .ret)
  .skip)
 (.seq (.region [⟨true, ⟨(some 6), .mov (.t 0), [], none⟩⟩,
   ⟨true, ⟨(some 7), .call .heap (.f 72) [(.t 6)], [0], none⟩⟩,
   ⟨false, ⟨(some 2), .mov (.t 7), [1, 1, 0, 1], none⟩⟩] [] 193)
 .ret)))⟩
def f50 : FFn := ⟨6, [.tmp 2],
 (.seq (.region [⟨true, ⟨(some 2), .mov (.c (.bool false)), [], none⟩⟩] [] 4)
 (.seq (.region [⟨true, ⟨(some 3), .mov (.t 0), [], none⟩⟩,
   ⟨true, ⟨(some 4), .call .heap (.f 59) [(.t 3), (.f 73)], [0], none⟩⟩,
   ⟨true, ⟨(some 5), .un .not (.t 4), [1], none⟩⟩,
   ⟨true, ⟨(some 2), .mov (.t 5), [2, 1, 0, 1, 2], none⟩⟩] [] 57)
 .ret))⟩
def f51 : FFn := ⟨48, [.tmp 4],
 (.seq (.region [⟨true, ⟨(some 4), .mov (.c (.int .i64 (.ofNat 0))), [], none⟩⟩] [] 16)
 (.seq (.seq (.region [⟨true, ⟨(some 7), .mov (.t 0), [], none⟩⟩,
   ⟨true, ⟨(some 8), .len 1 (.t 7), [0], none⟩⟩,
   ⟨true, ⟨(some 9), .mov (.c (.int .i64 (.ofNat 0))), [], none⟩⟩] [] 0)
 (.block 0 (.loop (.seq (.region [⟨true, ⟨(some 10), .bin .lss (.t 9) (.t 8), [], none⟩⟩] [] 0)
 (.seq (.cond (.t 10)
  .skip
  (.exit 0))
 (.seq (.block 1 (.seq (.region [⟨true, ⟨(some 11), .mov (.t 9), [], none⟩⟩,
   ⟨true, ⟨(some 12), .iaddr none 2 (.t 7) (.t 9), [], none⟩⟩,
   ⟨true, ⟨(some 13), .load (some 2) (.t 12), [1], none⟩⟩,
   ⟨true, ⟨(some 6), .alloc .dyn (.agg [(.int .i64 (.ofNat 0)), (.int .i64 (.ofNat 0))]), [], none⟩⟩,
   ⟨true, ⟨(some 5), .mov (.t 11), [0, 0, 1, 2, 3], none⟩⟩,
   ⟨false, ⟨none, .store 2 (.t 6) (.t 13), [3, 2, 4, 0, 1, 2, 3, 4], none⟩⟩] [] 15360)
 (.block 2 (.seq (.region [⟨true, ⟨(some 15), .faddr 0 (.t 6), [], none⟩⟩,
   ⟨true, ⟨(some 16), .load none (.t 15), [0], none⟩⟩,
   ⟨true, ⟨(some 17), .bin .lss (.t 16) (.c (.int .i64 (.ofNat 0))), [1], none⟩⟩,
   ⟨true, ⟨(some 18), .mov (.t 17), [2], none⟩⟩,
   ⟨false, ⟨(some 19), .faddr 0 (.t 6), [3], (some (18, false))⟩⟩,
   ⟨false, ⟨(some 20), .load none (.t 19), [4, 3], (some (18, false))⟩⟩,
   ⟨false, ⟨(some 21), .mov (.t 1), [3], (some (18, false))⟩⟩,
   ⟨false, ⟨(some 22), .bin .geq (.t 20) (.t 21), [5, 6, 3], (some (18, false))⟩⟩,
   ⟨true, ⟨(some 23), .pick (.t 18) (.c (.bool true)) (.t 22), [3, 7], none⟩⟩,
   ⟨true, ⟨(some 14), .mov (.t 23), [8, 3], none⟩⟩] [] 8880128)
 (.cond (.t 14)
  (.seq (.region [⟨true, ⟨(some 4), .mov (.c (.int .i64 (.ofNat 2))), [], none⟩⟩] [] 61709829555171)
  .ret)
  (.seq (.region [⟨true, ⟨(some 25), .mov (.t 5), [], none⟩⟩,
    ⟨true, ⟨(some 26), .bin .gtr (.t 25) (.c (.int .i64 (.ofNat 0))), [0], none⟩⟩,
    ⟨true, ⟨(some 27), .mov (.t 26), [1], none⟩⟩,
    ⟨false, ⟨(some 28), .faddr 0 (.t 6), [2], (some (27, true))⟩⟩,
    ⟨false, ⟨(some 29), .load none (.t 28), [3, 2], (some (27, true))⟩⟩,
    ⟨false, ⟨(some 30), .mov (.t 0), [2], (some (27, true))⟩⟩,
    ⟨false, ⟨(some 31), .mov (.t 5), [2], (some (27, true))⟩⟩,
    ⟨false, ⟨(some 32), .bin .sub (.t 31) (.c (.int .i64 (.ofNat 1))), [6, 2], (some (27, true))⟩⟩,
    ⟨false, ⟨(some 33), .iaddr none 2 (.t 30) (.t 32), [5, 7, 2], (some (27, true))⟩⟩,
    ⟨false, ⟨(some 34), .faddr 0 (.t 33), [8, 2], (some (27, true))⟩⟩,
    ⟨false, ⟨(some 35), .load none (.t 34), [9, 2], (some (27, true))⟩⟩,
    ⟨false, ⟨(some 36), .bin .leq (.t 29) (.t 35), [4, 10, 2], (some (27, true))⟩⟩,
    ⟨true, ⟨(some 37), .pick (.t 27) (.t 36) (.c (.bool false)), [2, 11], none⟩⟩,
    ⟨true, ⟨(some 24), .mov (.t 37), [12, 2], none⟩⟩] [] 137673850912)
  (.cond (.t 24)
   (.seq (.region [⟨true, ⟨(some 4), .mov (.c (.int .i64 (.ofNat 5))), [], none⟩⟩] [] 61709846315971)
   .ret)
   (.seq (.region [⟨true, ⟨(some 39), .faddr 1 (.t 6), [], none⟩⟩,
     ⟨true, ⟨(some 40), .load none (.t 39), [0], none⟩⟩,
     ⟨true, ⟨(some 41), .bin .lss (.t 40) (.c (.int .i64 (.ofNat 1))), [1], none⟩⟩,
     ⟨true, ⟨(some 42), .mov (.t 41), [2], none⟩⟩,
     ⟨false, ⟨(some 43), .faddr 1 (.t 6), [3], (some (42, false))⟩⟩,
     ⟨false, ⟨(some 44), .load none (.t 43), [4, 3], (some (42, false))⟩⟩,
     ⟨false, ⟨(some 45), .bin .gtr (.t 44) (.c (.int .i64 (.ofNat 8))), [5, 3], (some (42, false))⟩⟩,
     ⟨true, ⟨(some 46), .pick (.t 42) (.c (.bool true)) (.t 45), [3, 6], none⟩⟩,
     ⟨true, ⟨(some 38), .mov (.t 46), [7, 3], none⟩⟩] [] 78615098163264)
   (.cond (.t 38)
    (.seq (.region [⟨true, ⟨(some 4), .mov (.c (.int .i64 (.ofNat 2))), [], none⟩⟩] [] 61984707445635)
    .ret)
    .skip)))))))))
 (.region [⟨true, ⟨(some 47), .bin .add (.t 9) (.c (.int .i64 (.ofNat 1))), [], none⟩⟩,
   ⟨false, ⟨(some 9), .mov (.t 47), [0], none⟩⟩] [] 141012366262288)))))))
 (.seq (.region [⟨true, ⟨(some 4), .mov (.c (.int .i64 (.ofNat 0))), [], none⟩⟩] [] 61709829538691)
 .ret)))⟩
def f52 : FFn := ⟨26, [],
 (.seq (.region [⟨true, ⟨(some 3), .box .dyn (.t 1), [], none⟩⟩] [] 2)
 (.seq (.region [⟨true, ⟨(some 4), .mov (.t 0), [], none⟩⟩,
   ⟨true, ⟨(some 5), .nilchk (.t 4), [0], none⟩⟩,
   ⟨true, ⟨(some 6), .faddr 2 (.t 5), [1], none⟩⟩,
   ⟨true, ⟨(some 7), .load none (.t 6), [2], none⟩⟩,
   ⟨true, ⟨(some 8), .faddr 0 (.t 3), [], none⟩⟩,
   ⟨true, ⟨(some 9), .load none (.t 8), [4], none⟩⟩,
   ⟨true, ⟨(some 10), .call .borrow (.f 55) [(.t 9)], [5], none⟩⟩,
   ⟨true, ⟨(some 11), .mov (.t 0), [], none⟩⟩,
   ⟨true, ⟨(some 12), .nilchk (.t 11), [7], none⟩⟩,
   ⟨true, ⟨(some 13), .faddr 0 (.t 12), [8], none⟩⟩,
   ⟨true, ⟨(some 14), .load none (.t 13), [9], none⟩⟩,
   ⟨true, ⟨(some 15), .len 1 (.t 14), [10], none⟩⟩,
   ⟨false, ⟨none, .mupd false [.s] (.t 7) (.t 10) (.t 15), [3, 6, 11, 6, 0, 1, 2, 3, 4, 5, 6, 7, 8, 9, 10, 11], none⟩⟩] [] 65520)
 (.region [⟨true, ⟨(some 16), .mov (.t 0), [], none⟩⟩,
   ⟨true, ⟨(some 17), .mov (.t 0), [], none⟩⟩,
   ⟨true, ⟨(some 18), .nilchk (.t 17), [1], none⟩⟩,
   ⟨true, ⟨(some 19), .faddr 0 (.t 18), [2], none⟩⟩,
   ⟨true, ⟨(some 20), .load none (.t 19), [3], none⟩⟩,
   ⟨true, ⟨(some 21), .load (some 3) (.t 3), [], none⟩⟩,
   ⟨true, ⟨(some 22), .bslice false .dyn 3 1 [.nilsl, (.int .i64 (.ofNat 0)), (.int .i64 (.ofNat 0))] [(0, 3, (.t 21))], [5], none⟩⟩,
   ⟨true, ⟨(some 23), .append .dyn 3 40 (.t 20) (.t 22), [4, 6], none⟩⟩,
   ⟨true, ⟨(some 24), .nilchk (.t 16), [0, 0, 1, 2, 3, 4, 5, 6, 7], none⟩⟩,
   ⟨true, ⟨(some 25), .faddr 0 (.t 24), [8, 0, 1, 2, 3, 4, 5, 6, 7], none⟩⟩,
   ⟨false, ⟨none, .store 1 (.t 25) (.t 23), [9, 7, 7, 0, 1, 2, 3, 4, 5, 6, 7], none⟩⟩] [] 67043337)))⟩
def f53 : FFn := ⟨8, [.tmp 2],
 (.seq (.region [⟨true, ⟨(some 2), .mov (.c .nilsl), [], none⟩⟩] [] 4)
 (.seq (.seq (.region [⟨true, ⟨(some 3), .mov (.t 0), [], none⟩⟩,
   ⟨true, ⟨(some 4), .eq (.nil 2) false (.t 3) (.c .nilsl), [0], none⟩⟩] [] 8)
 (.cond (.t 4)
  (.seq (.region [⟨true, ⟨(some 2), .mov (.c .nilsl), [], none⟩⟩] [] 17)
  .ret)
  .skip))
 (.seq (.region [⟨true, ⟨(some 5), .bslice false .dyn 1 0 [] [], [], none⟩⟩,
   ⟨true, ⟨(some 6), .mov (.t 0), [], none⟩⟩,
   ⟨true, ⟨(some 7), .append .dyn 1 8 (.t 5) (.t 6), [0, 1], none⟩⟩,
   ⟨false, ⟨(some 2), .mov (.t 7), [2, 2, 0, 1, 2], none⟩⟩] [] 241)
 .ret)))⟩
def f54 : FFn := ⟨51, [.tmp 4, .tmp 5],
 (.seq (.region [⟨true, ⟨(some 2), .box .dyn (.t 0), [], none⟩⟩,
   ⟨true, ⟨(some 4), .mov (.c .nilsl), [], none⟩⟩,
   ⟨true, ⟨(some 5), .mov (.c (.int .i64 (.ofNat 0))), [1], none⟩⟩] [] 49)
 (.seq (.region [⟨true, ⟨(some 11), .mov (.t 1), [], none⟩⟩,
   ⟨true, ⟨(some 12), .call .heap (.f 53) [(.t 11)], [0], none⟩⟩,
   ⟨true, ⟨(some 6), .mov (.t 12), [1, 1, 0, 1], none⟩⟩] [] 6146)
 (.seq (.seq (.region [⟨true, ⟨(some 13), .faddr 1 (.t 2), [], none⟩⟩,
   ⟨true, ⟨(some 14), .load none (.t 13), [0], none⟩⟩,
   ⟨true, ⟨(some 15), .len 1 (.t 14), [1], none⟩⟩,
   ⟨true, ⟨(some 16), .mov (.c (.int .i64 (.ofNat 0))), [], none⟩⟩] [] 8192)
 (.block 0 (.loop (.seq (.region [⟨true, ⟨(some 17), .bin .lss (.t 16) (.t 15), [], none⟩⟩] [] 0)
 (.seq (.cond (.t 17)
  .skip
  (.exit 0))
 (.seq (.block 1 (.seq (.region [⟨true, ⟨(some 18), .iaddr none 2 (.t 14) (.t 16), [], none⟩⟩,
   ⟨true, ⟨(some 19), .load (some 2) (.t 18), [0], none⟩⟩,
   ⟨true, ⟨(some 8), .alloc .dyn (.agg [(.int .i64 (.ofNat 0)), (.int .i64 (.ofNat 0))]), [], none⟩⟩,
   ⟨false, ⟨none, .store 2 (.t 8) (.t 19), [2, 1, 0, 1, 2], none⟩⟩] [] 917504)
 (.region [⟨true, ⟨(some 20), .mov (.t 6), [], none⟩⟩,
   ⟨true, ⟨(some 21), .faddr 0 (.t 8), [], none⟩⟩,
   ⟨true, ⟨(some 22), .load none (.t 21), [1], none⟩⟩,
   ⟨true, ⟨(some 23), .iaddr none 1 (.t 20) (.t 22), [0, 2], none⟩⟩,
   ⟨true, ⟨(some 24), .load none (.t 23), [3], none⟩⟩,
   ⟨true, ⟨(some 25), .faddr 1 (.t 8), [], none⟩⟩,
   ⟨true, ⟨(some 26), .load none (.t 25), [5], none⟩⟩,
   ⟨true, ⟨(some 27), .bin .sub (.t 24) (.t 26), [4, 6], none⟩⟩,
   ⟨true, ⟨(some 28), .iaddr none 1 (.t 20) (.t 22), [0, 2, 0, 1, 2, 3, 4, 5, 6, 7], none⟩⟩,
   ⟨false, ⟨none, .store 1 (.t 28) (.t 27), [8, 7, 0, 1, 2, 3, 4, 5, 6, 7], none⟩⟩] [] 535822592)))
 (.region [⟨true, ⟨(some 29), .bin .add (.t 16) (.c (.int .i64 (.ofNat 1))), [], none⟩⟩,
   ⟨false, ⟨(some 16), .mov (.t 29), [0], none⟩⟩] [] 536870912)))))))
 (.seq (.seq (.region [⟨true, ⟨(some 30), .faddr 2 (.t 2), [], none⟩⟩,
   ⟨true, ⟨(some 31), .load none (.t 30), [0], none⟩⟩,
   ⟨true, ⟨(some 32), .len 1 (.t 31), [1], none⟩⟩,
   ⟨true, ⟨(some 33), .mov (.c (.int .i64 (.ofNat 0))), [], none⟩⟩] [] 1073856516)
 (.block 2 (.loop (.seq (.region [⟨true, ⟨(some 34), .bin .lss (.t 33) (.t 32), [], none⟩⟩] [] 0)
 (.seq (.cond (.t 34)
  .skip
  (.exit 2))
 (.seq (.block 3 (.seq (.region [⟨true, ⟨(some 35), .iaddr none 2 (.t 31) (.t 33), [], none⟩⟩,
   ⟨true, ⟨(some 36), .load (some 2) (.t 35), [0], none⟩⟩,
   ⟨true, ⟨(some 10), .alloc .dyn (.agg [(.int .i64 (.ofNat 0)), (.int .i64 (.ofNat 0))]), [], none⟩⟩,
   ⟨false, ⟨none, .store 2 (.t 10) (.t 36), [2, 1, 0, 1, 2], none⟩⟩] [] 120259084288)
 (.region [⟨true, ⟨(some 37), .mov (.t 6), [], none⟩⟩,
   ⟨true, ⟨(some 38), .faddr 0 (.t 10), [], none⟩⟩,
   ⟨true, ⟨(some 39), .load none (.t 38), [1], none⟩⟩,
   ⟨true, ⟨(some 40), .iaddr none 1 (.t 37) (.t 39), [0, 2], none⟩⟩,
   ⟨true, ⟨(some 41), .load none (.t 40), [3], none⟩⟩,
   ⟨true, ⟨(some 42), .faddr 1 (.t 10), [], none⟩⟩,
   ⟨true, ⟨(some 43), .load none (.t 42), [5], none⟩⟩,
   ⟨true, ⟨(some 44), .bin .add (.t 41) (.t 43), [4, 6], none⟩⟩,
   ⟨true, ⟨(some 45), .iaddr none 1 (.t 37) (.t 39), [0, 2, 0, 1, 2, 3, 4, 5, 6, 7], none⟩⟩,
   ⟨false, ⟨none, .store 1 (.t 45) (.t 44), [8, 7, 0, 1, 2, 3, 4, 5, 6, 7], none⟩⟩] [] 70231305225216)))
 (.region [⟨true, ⟨(some 46), .bin .add (.t 33) (.c (.int .i64 (.ofNat 1))), [], none⟩⟩,
   ⟨false, ⟨(some 33), .mov (.t 46), [0], none⟩⟩] [] 70368744177664)))))))
 (.seq (.seq (.region [⟨true, ⟨(some 47), .mov (.t 6), [], none⟩⟩,
   ⟨true, ⟨(some 48), .call .heap (.f 50) [(.t 47)], [0], none⟩⟩,
   ⟨true, ⟨(some 49), .un .not (.t 48), [1], none⟩⟩] [] 422227497451520)
 (.cond (.t 49)
  (.seq (.region [⟨true, ⟨(some 4), .mov (.c .nilsl), [], none⟩⟩,
    ⟨true, ⟨(some 5), .mov (.c (.int .i64 (.ofNat 3))), [0, 0], none⟩⟩] [] 562949953421376)
  .ret)
  .skip))
 (.seq (.region [⟨true, ⟨(some 50), .mov (.t 6), [], none⟩⟩,
   ⟨false, ⟨(some 4), .mov (.t 50), [0, 0], none⟩⟩,
   ⟨false, ⟨(some 5), .mov (.c (.int .i64 (.ofNat 0))), [1, 0, 1], none⟩⟩] [] 1688849860264000)
 .ret))))))⟩
def f55 : FFn := ⟨18, [.tmp 2],
 (.seq (.region [⟨true, ⟨(some 2), .mov (.c (.str [])), [], none⟩⟩] [] 4)
 (.seq (.region [⟨true, ⟨(some 3), .allocT 152 .dyn (.agg [.nilptr, .nilsl]), [], none⟩⟩] [] 0)
 (.seq (.seq (.region [⟨true, ⟨(some 6), .mov (.t 0), [], none⟩⟩,
   ⟨true, ⟨(some 7), .len 1 (.t 6), [0], none⟩⟩,
   ⟨true, ⟨(some 8), .mov (.c (.int .i64 (.ofNat 0))), [], none⟩⟩] [] 1)
 (.block 0 (.loop (.seq (.region [⟨true, ⟨(some 9), .bin .lss (.t 8) (.t 7), [], none⟩⟩] [] 0)
 (.seq (.cond (.t 9)
  .skip
  (.exit 0))
 (.seq (.block 1 (.seq (.region [⟨true, ⟨(some 10), .iaddr none 1 (.t 6) (.t 8), [], none⟩⟩,
   ⟨true, ⟨(some 11), .load none (.t 10), [0], none⟩⟩,
   ⟨true, ⟨(some 5), .mov (.t 11), [1, 0, 1], none⟩⟩] [] 3584)
 (.seq (.region [⟨true, ⟨(some 12), .mov (.t 5), [], none⟩⟩,
   ⟨true, ⟨(some 13), .call .heap (.f 47) [(.t 12)], [0], none⟩⟩,
   ⟨true, ⟨(some 14), .call .heap (.f 74) [(.t 3), (.t 13)], [1, 1], none⟩⟩] [] 28704)
 (.region [⟨true, ⟨(some 15), .call .heap (.f 75) [(.t 3), (.c (.int .u8 (.ofNat 32)))], [], none⟩⟩] [] 32768))))
 (.region [⟨true, ⟨(some 16), .bin .add (.t 8) (.c (.int .i64 (.ofNat 1))), [], none⟩⟩,
   ⟨false, ⟨(some 8), .mov (.t 16), [0], none⟩⟩] [] 65536)))))))
 (.seq (.region [⟨true, ⟨(some 17), .call .heap (.f 76) [(.t 3)], [], none⟩⟩,
   ⟨true, ⟨(some 2), .mov (.t 17), [0, 0, 0], none⟩⟩] [] 131528)
 .ret))))⟩
def f56 : FFn := ⟨61, [.tmp 2],
 (.seq (.region [⟨true, ⟨(some 2), .mov (.c (.int .i64 (.ofNat 0))), [], none⟩⟩] [] 4)
 (.seq (.region [⟨true, ⟨(some 9), .mov (.t 0), [], none⟩⟩,
   ⟨true, ⟨(some 10), .nilchk (.t 9), [0], none⟩⟩,
   ⟨true, ⟨(some 11), .faddr 0 (.t 10), [1], none⟩⟩,
   ⟨true, ⟨(some 12), .load none (.t 11), [2], none⟩⟩,
   ⟨true, ⟨(some 13), .mov (.t 0), [], none⟩⟩,
   ⟨true, ⟨(some 14), .nilchk (.t 13), [4], none⟩⟩,
   ⟨true, ⟨(some 15), .faddr 0 (.t 14), [5], none⟩⟩,
   ⟨true, ⟨(some 16), .load none (.t 15), [6], none⟩⟩,
   ⟨true, ⟨(some 17), .len 1 (.t 16), [7], none⟩⟩,
   ⟨true, ⟨(some 18), .bin .sub (.t 17) (.c (.int .i64 (.ofNat 1))), [8], none⟩⟩,
   ⟨true, ⟨(some 19), .iaddr none 3 (.t 12) (.t 18), [3, 9], none⟩⟩,
   ⟨true, ⟨(some 20), .load (some 3) (.t 19), [10], none⟩⟩,
   ⟨true, ⟨(some 3), .alloc .dyn (.agg [.nilsl, (.int .i64 (.ofNat 0)), (.int .i64 (.ofNat 0))]), [], none⟩⟩,
   ⟨false, ⟨none, .store 3 (.t 3) (.t 20), [12, 11, 0, 1, 2, 3, 4, 5, 6, 7, 8, 9, 10, 11, 12], none⟩⟩] [] 2096640)
 (.seq (.region [⟨true, ⟨(some 4), .mov (.c (.int .i64 (.negSucc 0))), [], none⟩⟩] [] 0)
 (.seq (.seq (.region [⟨true, ⟨(some 21), .faddr 1 (.t 3), [], none⟩⟩,
   ⟨true, ⟨(some 22), .load none (.t 21), [0], none⟩⟩,
   ⟨true, ⟨(some 5), .mov (.t 22), [1, 0, 1], none⟩⟩] [] 6291456)
 (.block 0 (.loop (.seq (.seq (.region [⟨true, ⟨(some 23), .mov (.t 5), [], none⟩⟩,
   ⟨true, ⟨(some 24), .bin .geq (.t 23) (.c (.int .i64 (.ofNat 0))), [0], none⟩⟩] [] 8388608)
 (.cond (.t 24)
  .skip
  (.exit 0)))
 (.seq (.block 1 (.seq (.region [⟨true, ⟨(some 6), .mov (.c (.bool true)), [], none⟩⟩] [] 16777216)
 (.seq (.seq (.region [⟨true, ⟨(some 33), .mov (.t 0), [], none⟩⟩,
   ⟨true, ⟨(some 34), .nilchk (.t 33), [0], none⟩⟩,
   ⟨true, ⟨(some 35), .faddr 0 (.t 34), [1], none⟩⟩,
   ⟨true, ⟨(some 36), .load none (.t 35), [2], none⟩⟩,
   ⟨true, ⟨(some 37), .mov (.t 5), [], none⟩⟩,
   ⟨true, ⟨(some 38), .iaddr none 3 (.t 36) (.t 37), [3, 4], none⟩⟩,
   ⟨true, ⟨(some 39), .faddr 0 (.t 38), [5], none⟩⟩,
   ⟨true, ⟨(some 40), .load none (.t 39), [6], none⟩⟩,
   ⟨true, ⟨(some 41), .len 1 (.t 40), [7], none⟩⟩,
   ⟨true, ⟨(some 42), .mov (.c (.int .i64 (.ofNat 0))), [], none⟩⟩] [] 1090921693184)
 (.block 2 (.loop (.seq (.region [⟨true, ⟨(some 43), .bin .lss (.t 42) (.t 41), [], none⟩⟩] [] 0)
 (.seq (.cond (.t 43)
  .skip
  (.exit 2))
 (.seq (.block 3 (.seq (.region [⟨true, ⟨(some 44), .mov (.t 42), [], none⟩⟩,
   ⟨true, ⟨(some 45), .iaddr none 1 (.t 40) (.t 42), [], none⟩⟩,
   ⟨true, ⟨(some 46), .load none (.t 45), [1], none⟩⟩,
   ⟨true, ⟨(some 7), .mov (.t 44), [0, 0, 1, 2], none⟩⟩,
   ⟨true, ⟨(some 8), .mov (.t 46), [2, 3, 0, 1, 2, 3], none⟩⟩] [] 131941395333120)
 (.region [⟨true, ⟨(some 47), .mov (.t 6), [], none⟩⟩,
   ⟨true, ⟨(some 48), .mov (.t 47), [0], none⟩⟩,
   ⟨false, ⟨(some 49), .mov (.t 8), [1], (some (48, true))⟩⟩,
   ⟨false, ⟨(some 50), .faddr 0 (.t 3), [1], (some (48, true))⟩⟩,
   ⟨false, ⟨(some 51), .load none (.t 50), [3, 1], (some (48, true))⟩⟩,
   ⟨false, ⟨(some 52), .mov (.t 7), [1], (some (48, true))⟩⟩,
   ⟨false, ⟨(some 53), .iaddr none 1 (.t 51) (.t 52), [4, 5, 1], (some (48, true))⟩⟩,
   ⟨false, ⟨(some 54), .load none (.t 53), [6, 1], (some (48, true))⟩⟩,
   ⟨false, ⟨(some 55), .bin .leq (.t 49) (.t 54), [2, 7, 1], (some (48, true))⟩⟩,
   ⟨true, ⟨(some 56), .pick (.t 48) (.t 55) (.c (.bool false)), [1, 8], none⟩⟩,
   ⟨false, ⟨(some 6), .mov (.t 56), [9, 1, 0, 1, 2, 3, 4, 5, 6, 7, 8, 9], none⟩⟩] [] 72479806502994304)))
 (.region [⟨true, ⟨(some 57), .bin .add (.t 42) (.c (.int .i64 (.ofNat 1))), [], none⟩⟩,
   ⟨false, ⟨(some 42), .mov (.t 57), [0], none⟩⟩] [] 144115188075855872)))))))
 (.seq (.region [⟨true, ⟨(some 58), .mov (.t 6), [], none⟩⟩] [] 7696581394496)
 (.cond (.t 58)
  (.region [⟨true, ⟨(some 59), .mov (.t 5), [], none⟩⟩,
    ⟨false, ⟨(some 4), .mov (.t 59), [0, 0], none⟩⟩] [] 864691128455135232)
  .skip)))))
 (.region [⟨true, ⟨(some 25), .mov (.t 0), [], none⟩⟩,
   ⟨true, ⟨(some 26), .nilchk (.t 25), [0], none⟩⟩,
   ⟨true, ⟨(some 27), .faddr 0 (.t 26), [1], none⟩⟩,
   ⟨true, ⟨(some 28), .load none (.t 27), [2], none⟩⟩,
   ⟨true, ⟨(some 29), .mov (.t 5), [], none⟩⟩,
   ⟨true, ⟨(some 30), .iaddr none 3 (.t 28) (.t 29), [3, 4], none⟩⟩,
   ⟨true, ⟨(some 31), .faddr 1 (.t 30), [5], none⟩⟩,
   ⟨true, ⟨(some 32), .load none (.t 31), [6], none⟩⟩,
   ⟨false, ⟨(some 5), .mov (.t 32), [7, 0, 1, 2, 3, 4, 5, 6, 7], none⟩⟩] [] 288230384708091904))))))
 (.seq (.region [⟨true, ⟨(some 60), .mov (.t 4), [], none⟩⟩,
   ⟨true, ⟨(some 2), .mov (.t 60), [0, 0], none⟩⟩] [] 1224416148691353657)
 .ret)))))⟩
def f57 : FFn := ⟨9, [.tmp 4],
 (.seq (.region [⟨true, ⟨(some 4), .mov (.c (.bool false)), [], none⟩⟩] [] 16)
 (.seq (.region [⟨true, ⟨(some 5), .mov (.t 0), [], none⟩⟩,
   ⟨true, ⟨(some 6), .mov (.t 1), [], none⟩⟩,
   ⟨true, ⟨(some 7), .call .heap (.f 77) [(.t 5), (.t 6)], [0, 1], none⟩⟩,
   ⟨true, ⟨(some 8), .bin .geq (.t 7) (.c (.int .i64 (.ofNat 0))), [2], none⟩⟩,
   ⟨true, ⟨(some 4), .mov (.t 8), [3, 2, 0, 1, 2, 3], none⟩⟩] [] 483)
 .ret))⟩
def f58 : FFn := ⟨12, [.tmp 3],
 (.seq (.region [⟨true, ⟨(some 2), .box .dyn (.t 0), [], none⟩⟩,
   ⟨true, ⟨(some 3), .mov (.c (.bool false)), [], none⟩⟩] [] 9)
 (.seq (.region [⟨true, ⟨(some 4), .load none (.t 1), [], none⟩⟩,
   ⟨true, ⟨(some 5), .faddr 0 (.t 2), [], none⟩⟩,
   ⟨true, ⟨(some 6), .load none (.t 5), [1], none⟩⟩,
   ⟨true, ⟨(some 7), .iaddr none 1 (.t 4) (.t 6), [0, 2], none⟩⟩,
   ⟨true, ⟨(some 8), .load none (.t 7), [3], none⟩⟩,
   ⟨true, ⟨(some 9), .faddr 1 (.t 2), [], none⟩⟩,
   ⟨true, ⟨(some 10), .load none (.t 9), [5], none⟩⟩,
   ⟨true, ⟨(some 11), .bin .lss (.t 8) (.t 10), [4, 6], none⟩⟩,
   ⟨true, ⟨(some 3), .mov (.t 11), [7, 0, 1, 2, 3, 4, 5, 6, 7], none⟩⟩] [] 4086)
 .ret))⟩
def f59 : FFn := ⟨9, [.tmp 4],
 (.seq (.region [⟨true, ⟨(some 4), .mov (.c (.bool false)), [], none⟩⟩] [] 16)
 (.seq (.region [⟨true, ⟨(some 5), .mov (.t 0), [], none⟩⟩,
   ⟨true, ⟨(some 6), .mov (.t 1), [], none⟩⟩,
   ⟨true, ⟨(some 7), .call .heap (.f 78) [(.t 5), (.t 6)], [0, 1], none⟩⟩,
   ⟨true, ⟨(some 8), .bin .geq (.t 7) (.c (.int .i64 (.ofNat 0))), [2], none⟩⟩,
   ⟨true, ⟨(some 4), .mov (.t 8), [3, 2, 0, 1, 2, 3], none⟩⟩] [] 483)
 .ret))⟩
def f60 : FFn := ⟨9, [.tmp 2],
 (.seq (.region [⟨true, ⟨(some 2), .mov (.c (.bool false)), [], none⟩⟩] [] 4)
 (.seq (.region [⟨true, ⟨(some 3), .mov (.t 0), [], none⟩⟩,
   ⟨true, ⟨(some 4), .bin .lss (.t 3) (.c (.int .i64 (.ofNat 0))), [0], none⟩⟩,
   ⟨true, ⟨(some 5), .mov (.t 4), [1], none⟩⟩,
   ⟨true, ⟨(some 6), .mov (.t 0), [2], (some (5, false))⟩⟩,
   ⟨true, ⟨(some 7), .bin .gtr (.t 6) (.c (.int .i64 (.ofNat 65536))), [3, 2], (some (5, false))⟩⟩,
   ⟨true, ⟨(some 8), .pick (.t 5) (.c (.bool true)) (.t 7), [2, 4], none⟩⟩,
   ⟨true, ⟨(some 2), .mov (.t 8), [5, 2, 0, 1, 2, 3, 4, 5], none⟩⟩] [] 505)
 .ret))⟩
def f61 : FFn := ⟨5, [.tmp 2],
 (.seq (.region [⟨true, ⟨(some 2), .mov (.c (.str [])), [], none⟩⟩] [] 4)
 (.seq (.region [⟨true, ⟨(some 3), .mov (.t 0), [], none⟩⟩,
   ⟨true, ⟨(some 4), .call .heap (.f 79) [(.t 3), (.c (.int .i64 (.ofNat 10)))], [0], none⟩⟩,
   ⟨true, ⟨(some 2), .mov (.t 4), [1, 1, 0, 1], none⟩⟩] [] 25)
 .ret))⟩
end Go.AM.IA
set_option maxRecDepth 100000
namespace Go.AM.IA
open Go.Proofs
def f62 : FFn := ⟨49, [],
 (.seq (.region [⟨true, ⟨(some 8), .mov (.t 1), [], none⟩⟩,
   ⟨true, ⟨(some 9), .bin .add (.t 8) (.c (.int .i64 (.ofNat 1))), [0], none⟩⟩,
   ⟨true, ⟨(some 6), .mov (.t 9), [1, 0, 1], none⟩⟩] [] 768)
 (.block 0 (.loop (.seq (.seq (.region [⟨true, ⟨(some 10), .mov (.t 6), [], none⟩⟩,
   ⟨true, ⟨(some 11), .mov (.t 2), [], none⟩⟩,
   ⟨true, ⟨(some 12), .bin .lss (.t 10) (.t 11), [0, 1], none⟩⟩] [] 3072)
 (.cond (.t 12)
  .skip
  (.exit 0)))
 (.seq (.block 1 (.seq (.region [⟨true, ⟨(some 15), .mov (.t 6), [], none⟩⟩,
   ⟨true, ⟨(some 7), .mov (.t 15), [0, 0], none⟩⟩] [] 36864)
 (.block 2 (.loop (.seq (.seq (.region [⟨true, ⟨(some 16), .mov (.t 7), [], none⟩⟩,
   ⟨true, ⟨(some 17), .mov (.t 1), [], none⟩⟩,
   ⟨true, ⟨(some 18), .bin .gtr (.t 16) (.t 17), [0, 1], none⟩⟩,
   ⟨true, ⟨(some 19), .mov (.t 18), [2], none⟩⟩,
   ⟨false, ⟨(some 20), .mov (.t 0), [3], (some (19, true))⟩⟩,
   ⟨false, ⟨(some 21), .mov (.t 7), [3], (some (19, true))⟩⟩,
   ⟨false, ⟨(some 22), .iaddr none 1 (.t 20) (.t 21), [4, 5, 3], (some (19, true))⟩⟩,
   ⟨false, ⟨(some 23), .load none (.t 22), [6, 3], (some (19, true))⟩⟩,
   ⟨false, ⟨(some 24), .mov (.t 0), [3], (some (19, true))⟩⟩,
   ⟨false, ⟨(some 25), .mov (.t 7), [3], (some (19, true))⟩⟩,
   ⟨false, ⟨(some 26), .bin .sub (.t 25) (.c (.int .i64 (.ofNat 1))), [9, 3], (some (19, true))⟩⟩,
   ⟨false, ⟨(some 27), .iaddr none 1 (.t 24) (.t 26), [8, 10, 3], (some (19, true))⟩⟩,
   ⟨false, ⟨(some 28), .load none (.t 27), [11, 3], (some (19, true))⟩⟩,
   ⟨false, ⟨(some 29), .call .heap (.f 68) [(.t 23), (.t 28)], [7, 12, 3, 3], (some (19, true))⟩⟩,
   ⟨true, ⟨(some 30), .pick (.t 19) (.t 29) (.c (.bool false)), [3, 13], none⟩⟩] [] 983040)
 (.cond (.t 30)
  .skip
  (.exit 2)))
 (.seq (.block 3 (.region [⟨true, ⟨(some 33), .mov (.t 0), [], none⟩⟩,
   ⟨true, ⟨(some 34), .mov (.t 7), [], none⟩⟩,
   ⟨true, ⟨(some 35), .mov (.t 0), [], none⟩⟩,
   ⟨true, ⟨(some 36), .mov (.t 7), [], none⟩⟩,
   ⟨true, ⟨(some 37), .bin .sub (.t 36) (.c (.int .i64 (.ofNat 1))), [3], none⟩⟩,
   ⟨true, ⟨(some 38), .mov (.t 0), [], none⟩⟩,
   ⟨true, ⟨(some 39), .mov (.t 7), [], none⟩⟩,
   ⟨true, ⟨(some 40), .bin .sub (.t 39) (.c (.int .i64 (.ofNat 1))), [6], none⟩⟩,
   ⟨true, ⟨(some 41), .iaddr none 1 (.t 38) (.t 40), [5, 7], none⟩⟩,
   ⟨true, ⟨(some 42), .load none (.t 41), [8], none⟩⟩,
   ⟨true, ⟨(some 43), .mov (.t 0), [], none⟩⟩,
   ⟨true, ⟨(some 44), .mov (.t 7), [], none⟩⟩,
   ⟨true, ⟨(some 45), .iaddr none 1 (.t 43) (.t 44), [10, 11], none⟩⟩,
   ⟨true, ⟨(some 46), .load none (.t 45), [12], none⟩⟩,
   ⟨true, ⟨(some 47), .iaddr none 1 (.t 33) (.t 34), [0, 1, 0, 1, 5, 6, 7, 8, 9, 13], none⟩⟩,
   ⟨false, ⟨none, .store 1 (.t 47) (.t 42), [14, 9, 0, 1, 5, 6, 7, 8, 9, 13], none⟩⟩,
   ⟨true, ⟨(some 48), .iaddr none 1 (.t 35) (.t 37), [2, 4, 0, 1, 2, 3, 4, 5, 6, 7, 8, 9, 10, 11, 12, 13, 14, 15], none⟩⟩,
   ⟨false, ⟨none, .store 1 (.t 48) (.t 46), [16, 13, 15, 0, 1, 2, 3, 4, 5, 6, 7, 8, 9, 10, 11, 12, 13, 14, 15], none⟩⟩] [] 562942437228544))
 (.region [⟨true, ⟨(some 31), .mov (.t 7), [], none⟩⟩,
   ⟨true, ⟨(some 32), .bin .sub (.t 31) (.c (.int .i64 (.ofNat 1))), [0], none⟩⟩,
   ⟨false, ⟨(some 7), .mov (.t 32), [1, 0, 1], none⟩⟩] [] 6442450944)))))))
 (.region [⟨true, ⟨(some 13), .mov (.t 6), [], none⟩⟩,
   ⟨true, ⟨(some 14), .bin .add (.t 13) (.c (.int .i64 (.ofNat 1))), [0], none⟩⟩,
   ⟨false, ⟨(some 6), .mov (.t 14), [1, 0, 1], none⟩⟩] [] 24704))))))⟩
def f68 : FFn := ⟨17, [.tmp 4],
 (.seq (.region [⟨true, ⟨(some 4), .mov (.c (.bool false)), [], none⟩⟩] [] 16)
 (.seq (.region [⟨true, ⟨(some 5), .mov (.t 0), [], none⟩⟩,
   ⟨true, ⟨(some 6), .call .heap (.f 85) [(.t 5)], [0], none⟩⟩,
   ⟨true, ⟨(some 7), .mov (.t 6), [1, 1], none⟩⟩,
   ⟨true, ⟨(some 8), .mov (.t 1), [2], (some (7, true))⟩⟩,
   ⟨true, ⟨(some 9), .call .heap (.f 85) [(.t 8)], [3, 2, 2], (some (7, true))⟩⟩,
   ⟨true, ⟨(some 10), .un .not (.t 9), [4, 2], (some (7, true))⟩⟩,
   ⟨true, ⟨(some 11), .pick (.t 7) (.t 10) (.c (.bool false)), [2, 5], none⟩⟩,
   ⟨true, ⟨(some 12), .mov (.t 11), [6, 4], none⟩⟩,
   ⟨true, ⟨(some 13), .mov (.t 0), [7], (some (12, false))⟩⟩,
   ⟨true, ⟨(some 14), .mov (.t 1), [7], (some (12, false))⟩⟩,
   ⟨true, ⟨(some 15), .bin .lss (.t 13) (.t 14), [8, 9, 7], (some (12, false))⟩⟩,
   ⟨true, ⟨(some 16), .pick (.t 12) (.c (.bool true)) (.t 15), [7, 10], none⟩⟩,
   ⟨true, ⟨(some 4), .mov (.t 16), [11, 7, 0, 1, 2, 3, 4, 5, 6, 7, 8, 9, 10, 11], none⟩⟩] [] 131043)
 .ret))⟩
def f71 : FFn := ⟨19, [.tmp 2],
 (.seq (.region [⟨true, ⟨(some 2), .mov (.c (.int .i64 (.ofNat 0))), [], none⟩⟩] [] 0)
 (.seq (.seq (.region [⟨true, ⟨(some 3), .mov (.t 0), [], none⟩⟩,
   ⟨true, ⟨(some 4), .bin .geq (.t 3) (.c (.int .u32 (.ofNat 65536))), [0], none⟩⟩] [] 8)
 (.cond (.t 4)
  (.seq (.region [⟨true, ⟨(some 5), .mov (.t 0), [], none⟩⟩,
    ⟨true, ⟨(some 6), .bin .shr (.t 5) (.c (.int .u64 (.ofNat 16))), [0], none⟩⟩,
    ⟨false, ⟨(some 0), .mov (.t 6), [1, 0, 1], none⟩⟩] [] 116)
  (.region [⟨true, ⟨(some 2), .mov (.c (.int .i64 (.ofNat 16))), [], none⟩⟩] [] 0))
  .skip))
 (.seq (.seq (.region [⟨true, ⟨(some 7), .mov (.t 0), [], none⟩⟩,
   ⟨true, ⟨(some 8), .bin .geq (.t 7) (.c (.int .u32 (.ofNat 256))), [0], none⟩⟩] [] 144)
 (.cond (.t 8)
  (.seq (.region [⟨true, ⟨(some 9), .mov (.t 0), [], none⟩⟩,
    ⟨true, ⟨(some 10), .bin .shr (.t 9) (.c (.int .u64 (.ofNat 8))), [0], none⟩⟩,
    ⟨false, ⟨(some 0), .mov (.t 10), [1, 0, 1], none⟩⟩] [] 1792)
  (.region [⟨true, ⟨(some 11), .mov (.t 2), [], none⟩⟩,
    ⟨true, ⟨(some 12), .bin .add (.t 11) (.c (.int .i64 (.ofNat 8))), [0], none⟩⟩,
    ⟨false, ⟨(some 2), .mov (.t 12), [1, 0, 1], none⟩⟩] [] 6144))
  .skip))
 (.seq (.region [⟨true, ⟨(some 13), .mov (.t 2), [], none⟩⟩,
   ⟨true, ⟨(some 14), .mov (.t 0), [], none⟩⟩,
   ⟨true, ⟨(some 15), .conv .u8 (.t 14), [1], none⟩⟩,
   ⟨true, ⟨(some 16), .index none (.c (.str [0, 1, 2, 2, 3, 3, 3, 3, 4, 4, 4, 4, 4, 4, 4, 4, 5, 5, 5, 5, 5, 5, 5, 5, 5, 5, 5, 5, 5, 5, 5, 5, 6, 6, 6, 6, 6, 6, 6, 6, 6, 6, 6, 6, 6, 6, 6, 6, 6, 6, 6, 6, 6, 6, 6, 6, 6, 6, 6, 6, 6, 6, 6, 6, 7, 7, 7, 7, 7, 7, 7, 7, 7, 7, 7, 7, 7, 7, 7, 7, 7, 7, 7, 7, 7, 7, 7, 7, 7, 7, 7, 7, 7, 7, 7, 7, 7, 7, 7, 7, 7, 7, 7, 7, 7, 7, 7, 7, 7, 7, 7, 7, 7, 7, 7, 7, 7, 7, 7, 7, 7, 7, 7, 7, 7, 7, 7, 7, 8, 8, 8, 8, 8, 8, 8, 8, 8, 8, 8, 8, 8, 8, 8, 8, 8, 8, 8, 8, 8, 8, 8, 8, 8, 8, 8, 8, 8, 8, 8, 8, 8, 8, 8, 8, 8, 8, 8, 8, 8, 8, 8, 8, 8, 8, 8, 8, 8, 8, 8, 8, 8, 8, 8, 8, 8, 8, 8, 8, 8, 8, 8, 8, 8, 8, 8, 8, 8, 8, 8, 8, 8, 8, 8, 8, 8, 8, 8, 8, 8, 8, 8, 8, 8, 8, 8, 8, 8, 8, 8, 8, 8, 8, 8, 8, 8, 8, 8, 8, 8, 8, 8, 8, 8, 8, 8, 8, 8, 8, 8, 8, 8, 8, 8, 8, 8, 8, 8, 8, 8, 8, 8, 8, 8, 8, 8, 8])) (.t 15), [2], none⟩⟩,
   ⟨true, ⟨(some 17), .conv .i64 (.t 16), [3], none⟩⟩,
   ⟨true, ⟨(some 18), .bin .add (.t 13) (.t 17), [0, 4], none⟩⟩,
   ⟨false, ⟨(some 2), .mov (.t 18), [5, 0, 1, 2, 3, 4, 5], none⟩⟩] [] 516353)
 .ret))))⟩
def f72 : FFn := ⟨25, [.tmp 2],
 (.seq (.region [⟨true, ⟨(some 2), .mov (.c (.int .i64 (.ofNat 0))), [], none⟩⟩] [] 0)
 (.seq (.seq (.region [⟨true, ⟨(some 3), .mov (.t 0), [], none⟩⟩,
   ⟨true, ⟨(some 4), .bin .geq (.t 3) (.c (.int .u64 (.ofNat 4294967296))), [0], none⟩⟩] [] 8)
 (.cond (.t 4)
  (.seq (.region [⟨true, ⟨(some 5), .mov (.t 0), [], none⟩⟩,
    ⟨true, ⟨(some 6), .bin .shr (.t 5) (.c (.int .u64 (.ofNat 32))), [0], none⟩⟩,
    ⟨false, ⟨(some 0), .mov (.t 6), [1, 0, 1], none⟩⟩] [] 116)
  (.region [⟨true, ⟨(some 2), .mov (.c (.int .i64 (.ofNat 32))), [], none⟩⟩] [] 0))
  .skip))
 (.seq (.seq (.region [⟨true, ⟨(some 7), .mov (.t 0), [], none⟩⟩,
   ⟨true, ⟨(some 8), .bin .geq (.t 7) (.c (.int .u64 (.ofNat 65536))), [0], none⟩⟩] [] 144)
 (.cond (.t 8)
  (.seq (.region [⟨true, ⟨(some 9), .mov (.t 0), [], none⟩⟩,
    ⟨true, ⟨(some 10), .bin .shr (.t 9) (.c (.int .u64 (.ofNat 16))), [0], none⟩⟩,
    ⟨false, ⟨(some 0), .mov (.t 10), [1, 0, 1], none⟩⟩] [] 1792)
  (.region [⟨true, ⟨(some 11), .mov (.t 2), [], none⟩⟩,
    ⟨true, ⟨(some 12), .bin .add (.t 11) (.c (.int .i64 (.ofNat 16))), [0], none⟩⟩,
    ⟨false, ⟨(some 2), .mov (.t 12), [1, 0, 1], none⟩⟩] [] 6144))
  .skip))
 (.seq (.seq (.region [⟨true, ⟨(some 13), .mov (.t 0), [], none⟩⟩,
   ⟨true, ⟨(some 14), .bin .geq (.t 13) (.c (.int .u64 (.ofNat 256))), [0], none⟩⟩] [] 8448)
 (.cond (.t 14)
  (.seq (.region [⟨true, ⟨(some 15), .mov (.t 0), [], none⟩⟩,
    ⟨true, ⟨(some 16), .bin .shr (.t 15) (.c (.int .u64 (.ofNat 8))), [0], none⟩⟩,
    ⟨false, ⟨(some 0), .mov (.t 16), [1, 0, 1], none⟩⟩] [] 114688)
  (.region [⟨true, ⟨(some 17), .mov (.t 2), [], none⟩⟩,
    ⟨true, ⟨(some 18), .bin .add (.t 17) (.c (.int .i64 (.ofNat 8))), [0], none⟩⟩,
    ⟨false, ⟨(some 2), .mov (.t 18), [1, 0, 1], none⟩⟩] [] 393216))
  .skip))
 (.seq (.region [⟨true, ⟨(some 19), .mov (.t 2), [], none⟩⟩,
   ⟨true, ⟨(some 20), .mov (.t 0), [], none⟩⟩,
   ⟨true, ⟨(some 21), .conv .u8 (.t 20), [1], none⟩⟩,
   ⟨true, ⟨(some 22), .index none (.c (.str [0, 1, 2, 2, 3, 3, 3, 3, 4, 4, 4, 4, 4, 4, 4, 4, 5, 5, 5, 5, 5, 5, 5, 5, 5, 5, 5, 5, 5, 5, 5, 5, 6, 6, 6, 6, 6, 6, 6, 6, 6, 6, 6, 6, 6, 6, 6, 6, 6, 6, 6, 6, 6, 6, 6, 6, 6, 6, 6, 6, 6, 6, 6, 6, 7, 7, 7, 7, 7, 7, 7, 7, 7, 7, 7, 7, 7, 7, 7, 7, 7, 7, 7, 7, 7, 7, 7, 7, 7, 7, 7, 7, 7, 7, 7, 7, 7, 7, 7, 7, 7, 7, 7, 7, 7, 7, 7, 7, 7, 7, 7, 7, 7, 7, 7, 7, 7, 7, 7, 7, 7, 7, 7, 7, 7, 7, 7, 7, 8, 8, 8, 8, 8, 8, 8, 8, 8, 8, 8, 8, 8, 8, 8, 8, 8, 8, 8, 8, 8, 8, 8, 8, 8, 8, 8, 8, 8, 8, 8, 8, 8, 8, 8, 8, 8, 8, 8, 8, 8, 8, 8, 8, 8, 8, 8, 8, 8, 8, 8, 8, 8, 8, 8, 8, 8, 8, 8, 8, 8, 8, 8, 8, 8, 8, 8, 8, 8, 8, 8, 8, 8, 8, 8, 8, 8, 8, 8, 8, 8, 8, 8, 8, 8, 8, 8, 8, 8, 8, 8, 8, 8, 8, 8, 8, 8, 8, 8, 8, 8, 8, 8, 8, 8, 8, 8, 8, 8, 8, 8, 8, 8, 8, 8, 8, 8, 8, 8, 8, 8, 8, 8, 8, 8, 8, 8, 8])) (.t 21), [2], none⟩⟩,
   ⟨true, ⟨(some 23), .conv .i64 (.t 22), [3], none⟩⟩,
   ⟨true, ⟨(some 24), .bin .add (.t 19) (.t 23), [0, 4], none⟩⟩,
   ⟨false, ⟨(some 2), .mov (.t 24), [5, 0, 1, 2, 3, 4, 5], none⟩⟩] [] 33046529)
 .ret)))))⟩
def f73 : FFn := ⟨9, [.tmp 2],
 (.seq (.region [⟨true, ⟨(some 2), .mov (.c (.bool false)), [], none⟩⟩] [] 4)
 (.seq (.region [⟨true, ⟨(some 3), .mov (.t 0), [], none⟩⟩,
   ⟨true, ⟨(some 4), .bin .lss (.t 3) (.c (.int .i64 (.ofNat 0))), [0], none⟩⟩,
   ⟨true, ⟨(some 5), .mov (.t 4), [1], none⟩⟩,
   ⟨true, ⟨(some 6), .mov (.t 0), [2], (some (5, false))⟩⟩,
   ⟨true, ⟨(some 7), .bin .gtr (.t 6) (.c (.int .i64 (.ofNat 65536))), [3, 2], (some (5, false))⟩⟩,
   ⟨true, ⟨(some 8), .pick (.t 5) (.c (.bool true)) (.t 7), [2, 4], none⟩⟩,
   ⟨true, ⟨(some 2), .mov (.t 8), [5, 2, 0, 1, 2, 3, 4, 5], none⟩⟩] [] 505)
 .ret))⟩
def f74 : FFn := ⟨19, [.tmp 4, .tmp 5],
 (.seq (.region [⟨true, ⟨(some 4), .mov (.c (.int .i64 (.ofNat 0))), [], none⟩⟩,
   ⟨true, ⟨(some 5), .mov (.c .nilif), [0], none⟩⟩] [] 48)
 (.seq (.region [⟨true, ⟨(some 6), .mov (.t 0), [], none⟩⟩,
   ⟨true, ⟨(some 7), .call .heap (.f 86) [(.t 6)], [0], none⟩⟩] [] 192)
 (.seq (.region [⟨true, ⟨(some 8), .mov (.t 0), [], none⟩⟩,
   ⟨true, ⟨(some 9), .mov (.t 0), [], none⟩⟩,
   ⟨true, ⟨(some 10), .nilchk (.t 9), [1], none⟩⟩,
   ⟨true, ⟨(some 11), .faddr 1 (.t 10), [2], none⟩⟩,
   ⟨true, ⟨(some 12), .load none (.t 11), [3], none⟩⟩,
   ⟨true, ⟨(some 13), .mov (.t 1), [], none⟩⟩,
   ⟨true, ⟨(some 14), .appendT 5 .dyn 1 1 (.t 12) (.t 13), [4, 5], none⟩⟩,
   ⟨true, ⟨(some 15), .nilchk (.t 8), [0, 0, 1, 2, 3, 4, 5, 6], none⟩⟩,
   ⟨true, ⟨(some 16), .faddr 1 (.t 15), [7, 0, 1, 2, 3, 4, 5, 6], none⟩⟩,
   ⟨false, ⟨none, .store 1 (.t 16) (.t 14), [8, 6, 6, 0, 1, 2, 3, 4, 5, 6], none⟩⟩] [] 130817)
 (.seq (.region [⟨true, ⟨(some 17), .mov (.t 1), [], none⟩⟩,
   ⟨true, ⟨(some 18), .len 0 (.t 17), [0], none⟩⟩,
   ⟨true, ⟨(some 4), .mov (.t 18), [1, 0, 1], none⟩⟩,
   ⟨true, ⟨(some 5), .mov (.c .nilif), [2, 0, 1, 2], none⟩⟩] [] 393218)
 .ret))))⟩
def f75 : FFn := ⟨17, [.tmp 4],
 (.seq (.region [⟨true, ⟨(some 4), .mov (.c .nilif), [], none⟩⟩] [] 16)
 (.seq (.region [⟨true, ⟨(some 5), .mov (.t 0), [], none⟩⟩,
   ⟨true, ⟨(some 6), .call .heap (.f 86) [(.t 5)], [0], none⟩⟩] [] 96)
 (.seq (.region [⟨true, ⟨(some 7), .mov (.t 0), [], none⟩⟩,
   ⟨true, ⟨(some 8), .mov (.t 0), [], none⟩⟩,
   ⟨true, ⟨(some 9), .nilchk (.t 8), [1], none⟩⟩,
   ⟨true, ⟨(some 10), .faddr 1 (.t 9), [2], none⟩⟩,
   ⟨true, ⟨(some 11), .load none (.t 10), [3], none⟩⟩,
   ⟨true, ⟨(some 12), .mov (.t 1), [], none⟩⟩,
   ⟨true, ⟨(some 13), .bslice false .dyn 1 1 [(.int .u8 (.ofNat 0))] [(0, 1, (.t 12))], [5], none⟩⟩,
   ⟨true, ⟨(some 14), .appendT 5 .dyn 1 1 (.t 11) (.t 13), [4, 6], none⟩⟩,
   ⟨true, ⟨(some 15), .nilchk (.t 7), [0, 0, 1, 2, 3, 4, 5, 6, 7], none⟩⟩,
   ⟨true, ⟨(some 16), .faddr 1 (.t 15), [8, 0, 1, 2, 3, 4, 5, 6, 7], none⟩⟩,
   ⟨false, ⟨none, .store 1 (.t 16) (.t 14), [9, 7, 7, 0, 1, 2, 3, 4, 5, 6, 7], none⟩⟩] [] 130947)
 (.seq (.region [⟨true, ⟨(some 4), .mov (.c .nilif), [], none⟩⟩] [] 0)
 .ret))))⟩
def f76 : FFn := ⟨14, [.tmp 2],
 (.seq (.region [⟨true, ⟨(some 2), .mov (.c (.str [])), [], none⟩⟩] [] 4)
 (.seq (.region [⟨true, ⟨(some 3), .mov (.t 0), [], none⟩⟩,
   ⟨true, ⟨(some 4), .nilchk (.t 3), [0], none⟩⟩,
   ⟨true, ⟨(some 5), .faddr 1 (.t 4), [1], none⟩⟩,
   ⟨true, ⟨(some 6), .load none (.t 5), [2], none⟩⟩,
   ⟨true, ⟨(some 7), .usd (.t 6), [3], none⟩⟩,
   ⟨true, ⟨(some 8), .mov (.t 0), [], none⟩⟩,
   ⟨true, ⟨(some 9), .nilchk (.t 8), [5], none⟩⟩,
   ⟨true, ⟨(some 10), .faddr 1 (.t 9), [6], none⟩⟩,
   ⟨true, ⟨(some 11), .load none (.t 10), [7], none⟩⟩,
   ⟨true, ⟨(some 12), .len 1 (.t 11), [8], none⟩⟩,
   ⟨true, ⟨(some 13), .ustr 5 (.t 7) (.t 12), [4, 9], none⟩⟩,
   ⟨true, ⟨(some 2), .mov (.t 13), [10, 0, 1, 2, 3, 4, 5, 6, 7, 8, 9, 10], none⟩⟩] [] 16377)
 .ret))⟩
def f77 : FFn := ⟨19, [.tmp 4],
 (.seq (.region [⟨true, ⟨(some 4), .mov (.c (.int .i64 (.ofNat 0))), [], none⟩⟩] [] 16)
 (.seq (.seq (.region [⟨true, ⟨(some 6), .mov (.t 0), [], none⟩⟩,
   ⟨true, ⟨(some 7), .len 1 (.t 6), [0], none⟩⟩,
   ⟨true, ⟨(some 8), .mov (.c (.int .i64 (.ofNat 0))), [], none⟩⟩] [] 64)
 (.block 0 (.loop (.seq (.region [⟨true, ⟨(some 9), .bin .lss (.t 8) (.t 7), [], none⟩⟩] [] 0)
 (.seq (.cond (.t 9)
  .skip
  (.exit 0))
 (.seq (.block 1 (.seq (.region [⟨true, ⟨(some 10), .mov (.t 8), [], none⟩⟩,
   ⟨true, ⟨(some 5), .mov (.t 10), [0, 0], none⟩⟩] [] 1536)
 (.seq (.region [⟨true, ⟨(some 11), .mov (.t 1), [], none⟩⟩,
   ⟨true, ⟨(some 12), .mov (.t 0), [], none⟩⟩,
   ⟨true, ⟨(some 13), .mov (.t 5), [], none⟩⟩,
   ⟨true, ⟨(some 14), .iaddr none 2 (.t 12) (.t 13), [1, 2], none⟩⟩,
   ⟨true, ⟨(some 15), .load (some 2) (.t 14), [3], none⟩⟩,
   ⟨true, ⟨(some 16), .call .heap (.t 11) [(.t 15)], [0, 4], none⟩⟩] [] 63488)
 (.cond (.t 16)
  (.seq (.region [⟨true, ⟨(some 17), .mov (.t 5), [], none⟩⟩,
    ⟨true, ⟨(some 4), .mov (.t 17), [0, 0], none⟩⟩] [] 197027)
  .ret)
  .skip))))
 (.region [⟨true, ⟨(some 18), .bin .add (.t 8) (.c (.int .i64 (.ofNat 1))), [], none⟩⟩,
   ⟨false, ⟨(some 8), .mov (.t 18), [0], none⟩⟩] [] 327728)))))))
 (.seq (.region [⟨true, ⟨(some 4), .mov (.c (.int .i64 (.negSucc 0))), [], none⟩⟩] [] 387)
 .ret)))⟩
def f78 : FFn := ⟨19, [.tmp 4],
 (.seq (.region [⟨true, ⟨(some 4), .mov (.c (.int .i64 (.ofNat 0))), [], none⟩⟩] [] 16)
 (.seq (.seq (.region [⟨true, ⟨(some 6), .mov (.t 0), [], none⟩⟩,
   ⟨true, ⟨(some 7), .len 1 (.t 6), [0], none⟩⟩,
   ⟨true, ⟨(some 8), .mov (.c (.int .i64 (.ofNat 0))), [], none⟩⟩] [] 64)
 (.block 0 (.loop (.seq (.region [⟨true, ⟨(some 9), .bin .lss (.t 8) (.t 7), [], none⟩⟩] [] 0)
 (.seq (.cond (.t 9)
  .skip
  (.exit 0))
 (.seq (.block 1 (.seq (.region [⟨true, ⟨(some 10), .mov (.t 8), [], none⟩⟩,
   ⟨true, ⟨(some 5), .mov (.t 10), [0, 0], none⟩⟩] [] 1536)
 (.seq (.region [⟨true, ⟨(some 11), .mov (.t 1), [], none⟩⟩,
   ⟨true, ⟨(some 12), .mov (.t 0), [], none⟩⟩,
   ⟨true, ⟨(some 13), .mov (.t 5), [], none⟩⟩,
   ⟨true, ⟨(some 14), .iaddr none 1 (.t 12) (.t 13), [1, 2], none⟩⟩,
   ⟨true, ⟨(some 15), .load none (.t 14), [3], none⟩⟩,
   ⟨true, ⟨(some 16), .call .heap (.t 11) [(.t 15)], [0, 4], none⟩⟩] [] 63488)
 (.cond (.t 16)
  (.seq (.region [⟨true, ⟨(some 17), .mov (.t 5), [], none⟩⟩,
    ⟨true, ⟨(some 4), .mov (.t 17), [0, 0], none⟩⟩] [] 197027)
  .ret)
  .skip))))
 (.region [⟨true, ⟨(some 18), .bin .add (.t 8) (.c (.int .i64 (.ofNat 1))), [], none⟩⟩,
   ⟨false, ⟨(some 8), .mov (.t 18), [0], none⟩⟩] [] 327728)))))))
 (.seq (.region [⟨true, ⟨(some 4), .mov (.c (.int .i64 (.negSucc 0))), [], none⟩⟩] [] 387)
 .ret)))⟩
def f79 : FFn := ⟨54, [.tmp 4],
 (.seq (.region [⟨true, ⟨(some 4), .mov (.c (.str [])), [], none⟩⟩] [] 16)
 (.seq (.seq (.region [⟨true, ⟨(some 10), .mov (.t 1), [], none⟩⟩,
   ⟨true, ⟨(some 11), .bin .eql (.t 10) (.c (.int .i64 (.ofNat 10))), [0], none⟩⟩] [] 1024)
 (.cond (.t 11)
  (.seq (.seq (.region [⟨true, ⟨(some 12), .mov (.t 0), [], none⟩⟩,
    ⟨true, ⟨(some 13), .bin .leq (.c (.int .i64 (.ofNat 0))) (.t 12), [0], none⟩⟩,
    ⟨true, ⟨(some 14), .mov (.t 13), [1], none⟩⟩,
    ⟨true, ⟨(some 15), .mov (.t 0), [2], (some (14, true))⟩⟩,
    ⟨true, ⟨(some 16), .bin .lss (.t 15) (.c (.int .i64 (.ofNat 100))), [3, 2], (some (14, true))⟩⟩,
    ⟨true, ⟨(some 17), .pick (.t 14) (.t 16) (.c (.bool false)), [2, 4], none⟩⟩] [] 129026)
  (.cond (.t 17)
   (.seq (.region [⟨true, ⟨(some 18), .mov (.t 0), [], none⟩⟩,
     ⟨true, ⟨(some 19), .call .heap (.f 87) [(.t 18)], [0], none⟩⟩,
     ⟨true, ⟨(some 4), .mov (.t 19), [1, 1, 0, 1], none⟩⟩] [] 917505)
   .ret)
   .skip))
  (.seq (.region [⟨true, ⟨(some 5), .alloc .dyn (.agg [(.int .u8 (.ofNat 0)), (.int .u8 (.ofNat 0)), (.int .u8 (.ofNat 0)), (.int .u8 (.ofNat 0)), (.int .u8 (.ofNat 0)), (.int .u8 (.ofNat 0)), (.int .u8 (.ofNat 0)), (.int .u8 (.ofNat 0)), (.int .u8 (.ofNat 0)), (.int .u8 (.ofNat 0)), (.int .u8 (.ofNat 0)), (.int .u8 (.ofNat 0)), (.int .u8 (.ofNat 0)), (.int .u8 (.ofNat 0)), (.int .u8 (.ofNat 0)), (.int .u8 (.ofNat 0)), (.int .u8 (.ofNat 0)), (.int .u8 (.ofNat 0)), (.int .u8 (.ofNat 0)), (.int .u8 (.ofNat 0)), (.int .u8 (.ofNat 0)), (.int .u8 (.ofNat 0)), (.int .u8 (.ofNat 0)), (.int .u8 (.ofNat 0))]), [], none⟩⟩] [] 131088)
  (.seq (.region [⟨true, ⟨(some 20), .mov (.t 0), [], none⟩⟩,
    ⟨true, ⟨(some 21), .conv .u64 (.t 20), [0], none⟩⟩,
    ⟨true, ⟨(some 6), .mov (.t 21), [1, 0, 1], none⟩⟩] [] 3145728)
  (.seq (.seq (.region [⟨true, ⟨(some 22), .mov (.t 0), [], none⟩⟩,
    ⟨true, ⟨(some 23), .bin .lss (.t 22) (.c (.int .i64 (.ofNat 0))), [0], none⟩⟩] [] 4194304)
  (.cond (.t 23)
   (.region [⟨true, ⟨(some 24), .mov (.t 6), [], none⟩⟩,
     ⟨true, ⟨(some 25), .un .neg (.t 24), [0], none⟩⟩,
     ⟨false, ⟨(some 6), .mov (.t 25), [1, 0, 1], none⟩⟩] [] 58720256)
   .skip))
  (.seq (.region [⟨true, ⟨(some 26), .mov (.t 6), [], none⟩⟩,
    ⟨true, ⟨(some 27), .call .heap (.f 88) [(.t 26)], [0], none⟩⟩,
    ⟨true, ⟨(some 7), .mov (.t 27), [1, 1, 0, 1], none⟩⟩] [] 209715200)
  (.seq (.region [⟨true, ⟨(some 28), .mov (.t 7), [], none⟩⟩,
    ⟨true, ⟨(some 29), .bin .add (.c (.int .i64 (.ofNat 1))) (.t 28), [0], none⟩⟩,
    ⟨true, ⟨(some 30), .bad, [1], none⟩⟩,
    ⟨true, ⟨(some 31), .mov (.t 6), [], none⟩⟩,
    ⟨true, ⟨(some 32), .call .heap (.f 89) [(.t 30), (.t 31)], [2, 3], none⟩⟩] [] 8321499200)
  (.seq (.seq (.region [⟨true, ⟨(some 33), .mov (.t 0), [], none⟩⟩,
    ⟨true, ⟨(some 34), .bin .lss (.t 33) (.c (.int .i64 (.ofNat 0))), [0], none⟩⟩] [] 8589934593)
  (.cond (.t 34)
   (.seq (.region [⟨true, ⟨(some 35), .iaddr (some 24) 1 (.t 5) (.c (.int .i64 (.ofNat 0))), [], none⟩⟩,
     ⟨false, ⟨none, .store 1 (.t 35) (.c (.int .u8 (.ofNat 45))), [0], none⟩⟩] [] 51539607584)
   (.seq (.region [⟨true, ⟨(some 36), .mov (.t 7), [], none⟩⟩,
     ⟨true, ⟨(some 37), .bin .add (.c (.int .i64 (.ofNat 1))) (.t 36), [0], none⟩⟩,
     ⟨true, ⟨(some 38), .bad, [1], none⟩⟩,
     ⟨true, ⟨(some 39), .convB (.t 38), [2], none⟩⟩,
     ⟨true, ⟨(some 4), .mov (.t 39), [3, 0, 1, 2, 3], none⟩⟩] [] 1030792151168)
   .ret))
   .skip))
  (.seq (.region [⟨true, ⟨(some 40), .mov (.t 7), [], none⟩⟩,
    ⟨true, ⟨(some 41), .bin .add (.c (.int .i64 (.ofNat 1))) (.t 40), [0], none⟩⟩,
    ⟨true, ⟨(some 42), .bad, [1], none⟩⟩,
    ⟨true, ⟨(some 43), .convB (.t 42), [2], none⟩⟩,
    ⟨false, ⟨(some 4), .mov (.t 43), [3, 0, 1, 2, 3], none⟩⟩] [] 16509854285984)
  .ret))))))))
  .skip))
 (.seq (.region [⟨true, ⟨(some 45), .mov (.t 0), [], none⟩⟩,
   ⟨true, ⟨(some 46), .conv .u64 (.t 45), [0], none⟩⟩,
   ⟨true, ⟨(some 47), .mov (.t 1), [], none⟩⟩,
   ⟨true, ⟨(some 48), .mov (.t 0), [], none⟩⟩,
   ⟨true, ⟨(some 49), .bin .lss (.t 48) (.c (.int .i64 (.ofNat 0))), [3], none⟩⟩,
   ⟨true, ⟨(some 50), .call .heap (.f 90) [(.c .nilsl), (.t 46), (.t 47), (.t 49), (.c (.bool false))], [1, 2, 4], none⟩⟩,
   ⟨true, ⟨(some 44), .mov (.t 50), [5], none⟩⟩,
   ⟨true, ⟨(some 51), .extract 0 (.t 44), [6], none⟩⟩,
   ⟨true, ⟨(some 52), .extract 1 (.t 44), [6], none⟩⟩,
   ⟨true, ⟨(some 8), .mov (.t 51), [7, 5, 0, 1, 2, 3, 4, 5, 6, 7], none⟩⟩,
   ⟨true, ⟨(some 9), .mov (.t 52), [8, 9, 0, 1, 2, 3, 4, 5, 6, 7, 8, 9], none⟩⟩] [] 8989607068698899)
 (.seq (.region [⟨true, ⟨(some 53), .mov (.t 9), [], none⟩⟩,
   ⟨true, ⟨(some 4), .mov (.t 53), [0, 0], none⟩⟩] [] 9007199254741504)
 .ret))))⟩
def f85 : FFn := ⟨6, [.tmp 2],
 (.seq (.region [⟨true, ⟨(some 2), .mov (.c (.bool false)), [], none⟩⟩] [] 4)
 (.seq (.region [⟨true, ⟨(some 3), .mov (.t 0), [], none⟩⟩,
   ⟨true, ⟨(some 4), .mov (.t 0), [], none⟩⟩,
   ⟨true, ⟨(some 5), .bin .neq (.t 3) (.t 4), [0, 1], none⟩⟩,
   ⟨true, ⟨(some 2), .mov (.t 5), [2, 0, 1, 2], none⟩⟩] [] 57)
 .ret))⟩
def f86 : FFn := ⟨20, [],
 (.seq (.region [⟨true, ⟨(some 2), .mov (.t 0), [], none⟩⟩,
   ⟨true, ⟨(some 3), .nilchk (.t 2), [0], none⟩⟩,
   ⟨true, ⟨(some 4), .faddr 0 (.t 3), [1], none⟩⟩,
   ⟨true, ⟨(some 5), .load none (.t 4), [2], none⟩⟩,
   ⟨true, ⟨(some 6), .eq (.nil 1) false (.t 5) (.c .nilptr), [3], none⟩⟩] [] 60)
 (.cond (.t 6)
  (.region [⟨true, ⟨(some 7), .mov (.t 0), [], none⟩⟩,
    ⟨true, ⟨(some 8), .mov (.t 0), [], none⟩⟩,
    ⟨true, ⟨(some 9), .convP 152 2 (.t 8), [1], none⟩⟩,
    ⟨true, ⟨(some 10), .ext 2 92 [(.t 9)], [2], none⟩⟩,
    ⟨true, ⟨(some 11), .convP 152 2 (.t 10), [3], none⟩⟩,
    ⟨true, ⟨(some 12), .nilchk (.t 7), [0, 0, 1, 2, 3, 4], none⟩⟩,
    ⟨true, ⟨(some 13), .faddr 0 (.t 12), [5, 0, 1, 2, 3, 4], none⟩⟩,
    ⟨false, ⟨none, .store 1 (.t 13) (.t 11), [6, 4, 3, 0, 1, 2, 3, 4], none⟩⟩] [] 16321)
  (.seq (.region [⟨true, ⟨(some 14), .mov (.t 0), [], none⟩⟩,
    ⟨true, ⟨(some 15), .nilchk (.t 14), [0], none⟩⟩,
    ⟨true, ⟨(some 16), .faddr 0 (.t 15), [1], none⟩⟩,
    ⟨true, ⟨(some 17), .load none (.t 16), [2], none⟩⟩,
    ⟨true, ⟨(some 18), .mov (.t 0), [], none⟩⟩,
    ⟨true, ⟨(some 19), .eqp true (.t 17) (.t 18), [3, 4], none⟩⟩] [] 507969)
  (.cond (.t 19)
   .bad
   .skip))))⟩
def f87 : FFn := ⟨15, [.tmp 2],
 (.seq (.region [⟨true, ⟨(some 2), .mov (.c (.str [])), [], none⟩⟩] [] 4)
 (.seq (.seq (.region [⟨true, ⟨(some 3), .mov (.t 0), [], none⟩⟩,
   ⟨true, ⟨(some 4), .bin .lss (.t 3) (.c (.int .i64 (.ofNat 10))), [0], none⟩⟩] [] 8)
 (.cond (.t 4)
  (.seq (.region [⟨true, ⟨(some 5), .mov (.t 0), [], none⟩⟩,
    ⟨true, ⟨(some 6), .mov (.t 0), [], none⟩⟩,
    ⟨true, ⟨(some 7), .bin .add (.t 6) (.c (.int .i64 (.ofNat 1))), [1], none⟩⟩,
    ⟨true, ⟨(some 8), .slice none (.c (.str [48, 49, 50, 51, 52, 53, 54, 55, 56, 57, 97, 98, 99, 100, 101, 102, 103, 104, 105, 106, 107, 108, 109, 110, 111, 112, 113, 114, 115, 116, 117, 118, 119, 120, 121, 122])) (some (.t 5)) (some (.t 7)) none, [0, 2], none⟩⟩,
    ⟨true, ⟨(some 2), .mov (.t 8), [3, 0, 1, 2, 3], none⟩⟩] [] 497)
  .ret)
  .skip))
 (.seq (.region [⟨true, ⟨(some 9), .mov (.t 0), [], none⟩⟩,
   ⟨true, ⟨(some 10), .bin .mul (.t 9) (.c (.int .i64 (.ofNat 2))), [0], none⟩⟩,
   ⟨true, ⟨(some 11), .mov (.t 0), [], none⟩⟩,
   ⟨true, ⟨(some 12), .bin .mul (.t 11) (.c (.int .i64 (.ofNat 2))), [2], none⟩⟩,
   ⟨true, ⟨(some 13), .bin .add (.t 12) (.c (.int .i64 (.ofNat 2))), [3], none⟩⟩,
   ⟨true, ⟨(some 14), .slice none (.c (.str [48, 48, 48, 49, 48, 50, 48, 51, 48, 52, 48, 53, 48, 54, 48, 55, 48, 56, 48, 57, 49, 48, 49, 49, 49, 50, 49, 51, 49, 52, 49, 53, 49, 54, 49, 55, 49, 56, 49, 57, 50, 48, 50, 49, 50, 50, 50, 51, 50, 52, 50, 53, 50, 54, 50, 55, 50, 56, 50, 57, 51, 48, 51, 49, 51, 50, 51, 51, 51, 52, 51, 53, 51, 54, 51, 55, 51, 56, 51, 57, 52, 48, 52, 49, 52, 50, 52, 51, 52, 52, 52, 53, 52, 54, 52, 55, 52, 56, 52, 57, 53, 48, 53, 49, 53, 50, 53, 51, 53, 52, 53, 53, 53, 54, 53, 55, 53, 56, 53, 57, 54, 48, 54, 49, 54, 50, 54, 51, 54, 52, 54, 53, 54, 54, 54, 55, 54, 56, 54, 57, 55, 48, 55, 49, 55, 50, 55, 51, 55, 52, 55, 53, 55, 54, 55, 55, 55, 56, 55, 57, 56, 48, 56, 49, 56, 50, 56, 51, 56, 52, 56, 53, 56, 54, 56, 55, 56, 56, 56, 57, 57, 48, 57, 49, 57, 50, 57, 51, 57, 52, 57, 53, 57, 54, 57, 55, 57, 56, 57, 57])) (some (.t 10)) (some (.t 13)) none, [1, 4], none⟩⟩,
   ⟨false, ⟨(some 2), .mov (.t 14), [5, 0, 1, 2, 3, 4, 5], none⟩⟩] [] 32273)
 .ret)))⟩
end Go.AM.IA
set_option maxRecDepth 100000
namespace Go.AM.IA
open Go.Proofs
def ft : FT2 := (.n 39 (.n 21 (.n 12 (.n 7 (.n 5 (.n 4 (.l 3 f3) (.l 4 f4)) (.n 6 (.l 5 f5) (.l 6 f6))) (.n 9 (.n 8 (.l 7 f7) (.l 8 f8)) (.n 10 (.l 9 f9) (.n 11 (.l 10 f10) (.l 11 f11))))) (.n 16 (.n 14 (.n 13 (.l 12 f12) (.l 13 f13)) (.n 15 (.l 14 f14) (.l 15 f15))) (.n 18 (.n 17 (.l 16 f16) (.l 17 f17)) (.n 19 (.l 18 f18) (.n 20 (.l 19 f19) (.l 20 f20)))))) (.n 30 (.n 25 (.n 23 (.n 22 (.l 21 f21) (.l 22 f22)) (.n 24 (.l 23 f23) (.l 24 f24))) (.n 27 (.n 26 (.l 25 f25) (.l 26 f26)) (.n 28 (.l 27 f27) (.n 29 (.l 28 f28) (.l 29 f29))))) (.n 34 (.n 32 (.n 31 (.l 30 f30) (.l 31 f31)) (.n 33 (.l 32 f32) (.l 33 f33))) (.n 36 (.n 35 (.l 34 f34) (.l 35 f35)) (.n 37 (.l 36 f36) (.n 38 (.l 37 f37) (.l 38 f38))))))) (.n 57 (.n 48 (.n 43 (.n 41 (.n 40 (.l 39 f39) (.l 40 f40)) (.n 42 (.l 41 f41) (.l 42 f42))) (.n 45 (.n 44 (.l 43 f43) (.l 44 f44)) (.n 46 (.l 45 f45) (.n 47 (.l 46 f46) (.l 47 f47))))) (.n 52 (.n 50 (.n 49 (.l 48 f48) (.l 49 f49)) (.n 51 (.l 50 f50) (.l 51 f51))) (.n 54 (.n 53 (.l 52 f52) (.l 53 f53)) (.n 55 (.l 54 f54) (.n 56 (.l 55 f55) (.l 56 f56)))))) (.n 73 (.n 61 (.n 59 (.n 58 (.l 57 f57) (.l 58 f58)) (.n 60 (.l 59 f59) (.l 60 f60))) (.n 68 (.n 62 (.l 61 f61) (.l 62 f62)) (.n 71 (.l 68 f68) (.n 72 (.l 71 f71) (.l 72 f72))))) (.n 78 (.n 75 (.n 74 (.l 73 f73) (.l 74 f74)) (.n 76 (.l 75 f75) (.n 77 (.l 76 f76) (.l 77 f77)))) (.n 85 (.n 79 (.l 78 f78) (.l 79 f79)) (.n 86 (.l 85 f85) (.n 87 (.l 86 f86) (.l 87 f87))))))))
theorem okf3 : okFn Tryd.prog 3 f3.slim = true := by kernel_rfl
theorem okf4 : okFn Tryd.prog 4 f4.slim = true := by kernel_rfl
theorem okf5 : okFn Tryd.prog 5 f5.slim = true := by kernel_rfl
theorem okf6 : okFn Tryd.prog 6 f6.slim = true := by kernel_rfl
theorem okf7 : okFn Tryd.prog 7 f7.slim = true := by kernel_rfl
theorem okf8 : okFn Tryd.prog 8 f8.slim = true := by kernel_rfl
theorem okf9 : okFn Tryd.prog 9 f9.slim = true := by kernel_rfl
theorem okf10 : okFn Tryd.prog 10 f10.slim = true := by kernel_rfl
theorem okf11 : okFn Tryd.prog 11 f11.slim = true := by kernel_rfl
theorem okf12 : okFn Tryd.prog 12 f12.slim = true := by kernel_rfl
theorem okf13 : okFn Tryd.prog 13 f13.slim = true := by kernel_rfl
theorem okf14 : okFn Tryd.prog 14 f14.slim = true := by kernel_rfl
theorem okf15 : okFn Tryd.prog 15 f15.slim = true := by kernel_rfl
theorem okf16 : okFn Tryd.prog 16 f16.slim = true := by kernel_rfl
theorem okf17 : okFn Tryd.prog 17 f17.slim = true := by kernel_rfl
theorem okf18 : okFn Tryd.prog 18 f18.slim = true := by kernel_rfl
theorem okf19 : okFn Tryd.prog 19 f19.slim = true := by kernel_rfl
theorem okf20 : okFn Tryd.prog 20 f20.slim = true := by kernel_rfl
theorem okf21 : okFn Tryd.prog 21 f21.slim = true := by kernel_rfl
theorem okf22 : okFn Tryd.prog 22 f22.slim = true := by kernel_rfl
theorem okf23 : okFn Tryd.prog 23 f23.slim = true := by kernel_rfl
theorem okf24 : okFn Tryd.prog 24 f24.slim = true := by kernel_rfl
theorem okf25 : okFn Tryd.prog 25 f25.slim = true := by kernel_rfl
theorem okf26 : okFn Tryd.prog 26 f26.slim = true := by kernel_rfl
theorem okf27 : okFn Tryd.prog 27 f27.slim = true := by kernel_rfl
theorem okf28 : okFn Tryd.prog 28 f28.slim = true := by kernel_rfl
theorem okf29 : okFn Tryd.prog 29 f29.slim = true := by kernel_rfl
theorem okf30 : okFn Tryd.prog 30 f30.slim = true := by kernel_rfl
theorem okf31 : okFn Tryd.prog 31 f31.slim = true := by kernel_rfl
theorem okf32 : okFn Tryd.prog 32 f32.slim = true := by kernel_rfl
theorem okf33 : okFn Tryd.prog 33 f33.slim = true := by kernel_rfl
theorem okf34 : okFn Tryd.prog 34 f34.slim = true := by kernel_rfl
theorem okf35 : okFn Tryd.prog 35 f35.slim = true := by kernel_rfl
theorem okf36 : okFn Tryd.prog 36 f36.slim = true := by kernel_rfl
theorem okf37 : okFn Tryd.prog 37 f37.slim = true := by kernel_rfl
theorem okf38 : okFn Tryd.prog 38 f38.slim = true := by kernel_rfl
theorem okf39 : okFn Tryd.prog 39 f39.slim = true := by kernel_rfl
theorem okf40 : okFn Tryd.prog 40 f40.slim = true := by kernel_rfl
theorem okf41 : okFn Tryd.prog 41 f41.slim = true := by kernel_rfl
theorem okf42 : okFn Tryd.prog 42 f42.slim = true := by kernel_rfl
theorem okf43 : okFn Tryd.prog 43 f43.slim = true := by kernel_rfl
theorem okf44 : okFn Tryd.prog 44 f44.slim = true := by kernel_rfl
theorem okf45 : okFn Tryd.prog 45 f45.slim = true := by kernel_rfl
theorem okf46 : okFn Tryd.prog 46 f46.slim = true := by kernel_rfl
theorem okf47 : okFn Tryd.prog 47 f47.slim = true := by kernel_rfl
theorem okf48 : okFn Tryd.prog 48 f48.slim = true := by kernel_rfl
theorem okf49 : okFn Tryd.prog 49 f49.slim = true := by kernel_rfl
theorem okf50 : okFn Tryd.prog 50 f50.slim = true := by kernel_rfl
theorem okf51 : okFn Tryd.prog 51 f51.slim = true := by kernel_rfl
theorem okf52 : okFn Tryd.prog 52 f52.slim = true := by kernel_rfl
theorem okf53 : okFn Tryd.prog 53 f53.slim = true := by kernel_rfl
theorem okf54 : okFn Tryd.prog 54 f54.slim = true := by kernel_rfl
theorem okf55 : okFn Tryd.prog 55 f55.slim = true := by kernel_rfl
theorem okf56 : okFn Tryd.prog 56 f56.slim = true := by kernel_rfl
theorem okf57 : okFn Tryd.prog 57 f57.slim = true := by kernel_rfl
theorem okf58 : okFn Tryd.prog 58 f58.slim = true := by kernel_rfl
theorem okf59 : okFn Tryd.prog 59 f59.slim = true := by kernel_rfl
theorem okf60 : okFn Tryd.prog 60 f60.slim = true := by kernel_rfl
theorem okf61 : okFn Tryd.prog 61 f61.slim = true := by kernel_rfl
theorem okf62 : okFn Tryd.prog 62 f62.slim = true := by kernel_rfl
theorem okf68 : okFn Tryd.prog 68 f68.slim = true := by kernel_rfl
theorem okf71 : okFn Tryd.prog 71 f71.slim = true := by kernel_rfl
theorem okf72 : okFn Tryd.prog 72 f72.slim = true := by kernel_rfl
theorem okf73 : okFn Tryd.prog 73 f73.slim = true := by kernel_rfl
theorem okf74 : okFn Tryd.prog 74 f74.slim = true := by kernel_rfl
theorem okf75 : okFn Tryd.prog 75 f75.slim = true := by kernel_rfl
theorem okf76 : okFn Tryd.prog 76 f76.slim = true := by kernel_rfl
theorem okf77 : okFn Tryd.prog 77 f77.slim = true := by kernel_rfl
theorem okf78 : okFn Tryd.prog 78 f78.slim = true := by kernel_rfl
theorem okf79 : okFn Tryd.prog 79 f79.slim = true := by kernel_rfl
theorem okf85 : okFn Tryd.prog 85 f85.slim = true := by kernel_rfl
theorem okf86 : okFn Tryd.prog 86 f86.slim = true := by kernel_rfl
theorem okf87 : okFn Tryd.prog 87 f87.slim = true := by kernel_rfl
theorem ft_ok : ft.OK Tryd.prog := ⟨⟨⟨⟨⟨⟨okf3, okf4⟩, ⟨okf5, okf6⟩⟩, ⟨⟨okf7, okf8⟩, ⟨okf9, ⟨okf10, okf11⟩⟩⟩⟩, ⟨⟨⟨okf12, okf13⟩, ⟨okf14, okf15⟩⟩, ⟨⟨okf16, okf17⟩, ⟨okf18, ⟨okf19, okf20⟩⟩⟩⟩⟩, ⟨⟨⟨⟨okf21, okf22⟩, ⟨okf23, okf24⟩⟩, ⟨⟨okf25, okf26⟩, ⟨okf27, ⟨okf28, okf29⟩⟩⟩⟩, ⟨⟨⟨okf30, okf31⟩, ⟨okf32, okf33⟩⟩, ⟨⟨okf34, okf35⟩, ⟨okf36, ⟨okf37, okf38⟩⟩⟩⟩⟩⟩, ⟨⟨⟨⟨⟨okf39, okf40⟩, ⟨okf41, okf42⟩⟩, ⟨⟨okf43, okf44⟩, ⟨okf45, ⟨okf46, okf47⟩⟩⟩⟩, ⟨⟨⟨okf48, okf49⟩, ⟨okf50, okf51⟩⟩, ⟨⟨okf52, okf53⟩, ⟨okf54, ⟨okf55, okf56⟩⟩⟩⟩⟩, ⟨⟨⟨⟨okf57, okf58⟩, ⟨okf59, okf60⟩⟩, ⟨⟨okf61, okf62⟩, ⟨okf68, ⟨okf71, okf72⟩⟩⟩⟩, ⟨⟨⟨okf73, okf74⟩, ⟨okf75, ⟨okf76, okf77⟩⟩⟩, ⟨⟨okf78, okf79⟩, ⟨okf85, ⟨okf86, okf87⟩⟩⟩⟩⟩⟩⟩
end Go.AM.IA
set_option linter.unusedSimpArgs false
set_option linter.unusedVariables false
namespace Go.AM
variable {P : Program}
section
variable {N : NM} {n : Nat} {d : Option Nat} {af dead : List Nat} {r : List SOper} {T : Tmps} {h : Heap} {Q : QC} {fs : List Fr}
theorem get_same {k : Nat} {x : Blk} (hk : k < 1099511627775) : (h.set k x).get k = some x := by rw [Tr.get_set h hk]; simp
theorem get_ne {j k : Nat} {x : Blk} (hk : k < 1099511627775) (hj : j ≠ k) : (h.set k x).get j = h.get j := by rw [Tr.get_set h hk]; simp [hj]
end
def Fresh (n : Nat) (h : Heap) : Prop := ∀ b, n ≤ b → h.get b = none
theorem Fresh.e {n : Nat} : Fresh n .e := fun b _ => by simp [Tr.get]
theorem Fresh.set {n k : Nat} {h : Heap} {x : Blk} (hf : Fresh n h) (hk : k < 1099511627775) (hl : k < n) : Fresh n (h.set k x) := fun b hb => by
  rw [get_ne hk (by omega)]; exact hf b hb
end Go.AM
set_option linter.unusedSimpArgs false
set_option linter.unusedVariables false
namespace Go.AM
variable {P : Program}
def FrzTo (h : Heap) (x y : AV) : Prop := ∀ (ok : Okc) (c : Ctx ok) (w : World) (v : Value), HRel c h w → VRel c w x v → VRel (lent c) w y v
def FrzL (h : Heap) : List AV → List AV → Prop
  | [], [] => True
  | x :: xs, y :: ys => FrzTo h x y ∧ FrzL h xs ys
  | _, _ => False
variable {h : Heap}
theorem FrzTo.same (x : AV) : FrzTo h x x := fun _ c w v _ hv => VRel.mono (lent_ext c w) _ _ hv
theorem FrzL.same : ∀ (xs : List AV), FrzL h xs xs
  | [] => trivial
  | x :: xs => ⟨.same x, FrzL.same xs⟩
theorem FrzL.length : ∀ {xs ys : List AV}, FrzL h xs ys → ys.length = xs.length
  | [], [], _ => rfl
  | [], _ :: _, hh => hh.elim
  | _ :: _, [], hh => hh.elim
  | x :: xs, y :: ys, hh => by simp [FrzL.length hh.2]
theorem FrzL.append : ∀ {xs ys us vs : List AV}, FrzL h xs ys → FrzL h us vs → FrzL h (xs ++ us) (ys ++ vs)
  | [], [], _, _, _, h2 => h2
  | [], _ :: _, _, _, hh, _ => hh.elim
  | _ :: _, [], _, _, hh, _ => hh.elim
  | x :: xs, y :: ys, _, _, hh, h2 => ⟨hh.1, FrzL.append hh.2 h2⟩
theorem FrzL.pre {ok : Okc} {c : Ctx ok} {w : World} (H : HRel c h w) : ∀ {xs ys : List AV} {vs : List Value}, FrzL h xs ys → VPre c w xs vs → VPre (lent c) w ys vs
  | [], [], _, _, _ => by simp [VPre]
  | [], _ :: _, _, hh, _ => hh.elim
  | _ :: _, [], _, hh, _ => hh.elim
  | x :: xs, y :: ys, vs, hh, hv => by
    simp only [VPre] at hv ⊢
    obtain ⟨v, vs', rfl, g1, g2⟩ := hv
    exact ⟨v, vs', rfl, hh.1 _ c w v H g1, FrzL.pre H hh.2 g2⟩
theorem FrzL.rels {ok : Okc} {c : Ctx ok} {w : World} (H : HRel c h w) : ∀ {xs ys : List AV} {vs : List Value}, FrzL h xs ys → VRels c w xs vs → VRels (lent c) w ys vs
  | [], [], _, _, hv => by simpa [VRels] using hv
  | [], _ :: _, _, hh, _ => hh.elim
  | _ :: _, [], _, hh, _ => hh.elim
  | x :: xs, y :: ys, vs, hh, hv => by
    simp only [VRels] at hv ⊢
    obtain ⟨v, vs', rfl, g1, g2⟩ := hv
    exact ⟨v, vs', rfl, hh.1 _ c w v H g1, FrzL.rels H hh.2 g2⟩
theorem FrzTo.nil {sz : Nat} : FrzTo h .nilsl (.fsl [] 0 sz) := fun _ c w v _ hv => by
  simp only [VRel] at hv ⊢
  exact .inl ⟨⟨none, hv⟩, by simp⟩
theorem FrzTo.agg {xs ys : List AV} (hL : FrzL h xs ys) : FrzTo h (.agg xs) (.agg ys) := fun _ c w v H hv => by
  simp only [VRel] at hv ⊢
  obtain ⟨vs, rfl, hv⟩ := hv
  exact ⟨vs, rfl, hL.rels H hv⟩
theorem FrzTo.tup {xs ys : List AV} (hL : FrzL h xs ys) : FrzTo h (.tup xs) (.tup ys) := fun _ c w v H hv => by
  simp only [VRel] at hv ⊢
  obtain ⟨vs, rfl, hv⟩ := hv
  exact ⟨vs, rfl, hL.rels H hv⟩
theorem FrzTo.sl {b g off len sz : Nat} {cs ys : List AV} (hb : h.get b = some (.cells g cs)) (hl : off + len * sz ≤ cs.length) (hL : FrzL h ((cs.drop off).take (len * sz)) ys) :
    FrzTo h (.sl b g off len sz) (.fsl ys len sz) := fun _ c w v H hv => by
  have hlen := hL.length
  simp only [VRel] at hv
  rcases hv with ⟨hp, rfl, rfl, rfl⟩ | ⟨cb, base, o, cap, C, e, fr, hp, rfl, hlc, hC, hcap⟩
  · have hys : ys = [] := by
      apply List.eq_nil_of_length_eq_zero
      rw [hlen]; simp
    subst hys
    simp only [VRel]; exact .inl (by simp)
  · obtain ⟨C', e', fr', hO, hC', hfr, hbs, hpre⟩ := H.here hb hp
    rw [hC] at hC'; cases hC'
    by_cases h0 : cap = 0
    · have hl0 : len = 0 := by omega
      subst hl0
      have hys : ys = [] := by
        apply List.eq_nil_of_length_eq_zero
        rw [hlen]; simp
      subst hys
      simp only [VRel]
      exact .inr ⟨cb, o, cap, C, e, fr, rfl, hlc, by simp, .inr hO, hC, by simp [VPre]⟩
    · obtain ⟨rfl, hbd⟩ := hcap.resolve_left h0
      have hp2 := VPre_take (len * sz) (VPre_drop off hpre)
      rw [List.drop_drop] at hp2
      simp only [VRel]
      exact .inr ⟨cb, base + off, cap, C, e, fr, rfl, hlc, by rw [hlen]; simp; omega, .inr hO, hC, hL.pre H hp2⟩
def Row (h : Heap) (ok : Nat → Prop) (v : AV) (cs : List AV) (len sz : Nat) : Prop :=
  (v = .nilsl ∧ cs = [] ∧ len = 0) ∨ ∃ b g, v = .sl b g 0 len sz ∧ h.get b = some (.cells g cs) ∧ cs.length = len * sz ∧ ok b
theorem Row.nil {ok : Nat → Prop} {sz : Nat} : Row h ok .nilsl [] 0 sz := .inl ⟨rfl, rfl, rfl⟩
theorem Row.keep {h h' : Heap} {ok ok' : Nat → Prop} {v : AV} {cs : List AV} {len sz : Nat} (hr : Row h ok v cs len sz) (hk : ∀ b, ok b → h.get b ≠ none → h'.get b = h.get b ∧ ok' b) : Row h' ok' v cs len sz := by
  rcases hr with hr | ⟨b, g, h1, h2, h3, h4⟩
  · exact .inl hr
  · obtain ⟨k1, k2⟩ := hk b h4 (by rw [h2]; simp)
    exact .inr ⟨b, g, h1, by rw [k1]; exact h2, h3, k2⟩
theorem Row.frz {ok : Nat → Prop} {v : AV} {cs ys : List AV} {len sz : Nat} (hr : Row h ok v cs len sz) (hL : FrzL h cs ys) : FrzTo h v (.fsl ys len sz) := by
  rcases hr with ⟨rfl, rfl, rfl⟩ | ⟨b, g, rfl, h2, h3, h4⟩
  · cases ys with
    | nil => exact FrzTo.nil
    | cons y ys => exact hL.elim
  · refine FrzTo.sl h2 (by omega) ?_
    rw [List.drop_zero, ← h3, List.take_length]; exact hL
theorem Row.len {ok : Nat → Prop} {v : AV} {cs : List AV} {len sz : Nat} (hr : Row h ok v cs len sz) : cs.length = len * sz := by
  rcases hr with ⟨_, rfl, rfl⟩ | ⟨_, _, _, _, h3, _⟩
  · simp
  · exact h3
section
variable {N : NM} {n : Nat} {d : Option Nat} {af dead : List Nat} {r : List SOper} {T : Tmps} {Q : QC} {fs : List Fr}
end
end Go.AM
set_option linter.unusedSimpArgs false
set_option linter.unusedVariables false
namespace Go.AM
variable {P : Program}
def blkOf : AV → Option Nat
  | .sl b _ _ _ _ => some b
  | _ => none
structure Mat (h : Heap) (n lo : Nat) (v : AV) (rows : List AV) (L : List (List Int)) : Prop where
  len : rows.length = L.length
  out : Row h (fun b => blkOf v = some b ∧ lo < b ∧ b < n) v rows rows.length 1
  row : ∀ (j : Nat) (r : AV) (l : List Int), rows[j]? = some r → L[j]? = some l → Row h (fun b => lo < b ∧ b < n ∧ blkOf v ≠ some b) r (l.map (.int .i64)) l.length 1
theorem Mat.nil {h : Heap} {n lo : Nat} : Mat h n lo .nilsl [] [] := ⟨rfl, .nil, fun j r l hr => by simp at hr⟩
theorem Mat.keep {h h' : Heap} {n n' lo : Nat} {v : AV} {rows : List AV} {L : List (List Int)} (m : Mat h n lo v rows L) (hn : n ≤ n') (hk : ∀ b, lo < b → b < n → h'.get b = h.get b) : Mat h' n' lo v rows L :=
  ⟨m.len, m.out.keep fun b hb _ => ⟨hk b hb.2.1 hb.2.2, hb.1, hb.2.1, by omega⟩, fun j r l h1 h2 => (m.row j r l h1 h2).keep fun b hb _ => ⟨hk b hb.1 hb.2.1, hb.1, by omega, hb.2.2⟩⟩
theorem Mat.frzL {h : Heap} {n lo : Nat} {v : AV} {rows : List AV} {L : List (List Int)} (m : Mat h n lo v rows L) : FrzL h rows (L.map fun l => .fsl (l.map (.int .i64)) l.length 1) := by
  have key : ∀ (rows : List AV) (L : List (List Int)), rows.length = L.length → (∀ (j : Nat) (r : AV) (l : List Int), rows[j]? = some r → L[j]? = some l → FrzTo h r (.fsl (l.map (.int .i64)) l.length 1)) →
      FrzL h rows (L.map fun l => .fsl (l.map (.int .i64)) l.length 1) := by
    intro rows
    induction rows with
    | nil => intro L hl _; cases L with | nil => trivial | cons a L => simp at hl
    | cons r rows ih =>
      intro L hl hh
      cases L with
      | nil => simp at hl
      | cons a L => exact ⟨hh 0 r a rfl rfl, ih L (by simpa using hl) fun j r l h1 h2 => hh (j + 1) r l (by simpa using h1) (by simpa using h2)⟩
  exact key rows L m.len fun j r l h1 h2 => (m.row j r l h1 h2).frz (FrzL.same _)
theorem Mat.frz {h : Heap} {n lo : Nat} {v : AV} {rows : List AV} {L : List (List Int)} (m : Mat h n lo v rows L) : FrzTo h v (.fsl (L.map fun l => .fsl (l.map (.int .i64)) l.length 1) L.length 1) := by
  have := m.out.frz m.frzL
  rwa [m.len] at this
theorem Row.one {h : Heap} {ok : Nat → Prop} {v : AV} {cs : List AV} {len sz : Nat} (hr : Row h ok v cs len sz) : v.one = true := by
  rcases hr with ⟨rfl, _⟩ | ⟨_, _, rfl, _⟩ <;> rfl
theorem Row.boxable {h : Heap} {ok : Nat → Prop} {v : AV} {cs : List AV} {len sz : Nat} (hr : Row h ok v cs len sz) : v.boxable = true := by
  rcases hr with ⟨rfl, _⟩ | ⟨_, _, rfl, _⟩ <;> rfl
section
variable {N : NM} {n : Nat} {d : Option Nat} {dead : List Nat} {r : List SOper} {T : Tmps} {Q : QC} {fs : List Fr}
end
end Go.AM
