/- The slim code of the functions that are run. -/
import Derived.Test.YtjojndgfbbmfnaaDoorAmN
import Derived.Test.YtjojndgfbbmfnaaDoorProg
import Derived.KernelRfl
set_option maxRecDepth 100000
namespace Go.AM.SlimF
open Go.Proofs
-- overseer/overseerlaw59.CatalogueFacts
def s3 : SFn := ⟨103, [.tmp 4],
 (.seq (.region [⟨(some 4), .mov (.c (.bool false)), [], none⟩] [] [4])
 (.seq (.seq (.region [⟨(some 11), .call .pure (.f 7) [], [], none⟩,
   ⟨(some 12), .un .not (.t 11), [0], none⟩] [] [11])
 (.cond (.t 12)
  (.seq (.region [⟨(some 4), .mov (.c (.bool false)), [], none⟩] [] [0, 1, 12])
  .ret)
  .skip))
 (.seq (.region [⟨(some 14), .mov (.t 0), [], none⟩,
   ⟨(some 15), .mov (.t 1), [], none⟩,
   ⟨(some 16), .call .pure (.f 8) [(.t 14), (.t 15)], [0, 1], none⟩,
   ⟨(some 13), .mov (.t 16), [2], none⟩,
   ⟨(some 17), .extract 0 (.t 13), [3], none⟩,
   ⟨(some 18), .extract 1 (.t 13), [3], none⟩,
   ⟨(some 5), .mov (.t 17), [4, 2, 0, 1, 2, 3, 4], none⟩,
   ⟨(some 6), .mov (.t 18), [5, 6, 0, 1, 2, 3, 4, 5, 6], none⟩] [] [4, 0, 1, 12, 14, 15, 16, 13, 17, 18])
 (.seq (.region [⟨(some 20), .mov (.t 5), [], none⟩,
   ⟨(some 21), .mov (.t 6), [], none⟩,
   ⟨(some 22), .call .pure (.f 9) [(.t 20), (.t 21)], [0, 1], none⟩,
   ⟨(some 19), .mov (.t 22), [2], none⟩,
   ⟨(some 23), .extract 0 (.t 19), [3], none⟩,
   ⟨(some 24), .extract 1 (.t 19), [3], none⟩,
   ⟨(some 7), .alloc .dyn (.agg [(.int .i64 0), (.int .i64 0), (.int .i64 0), (.int .i64 0), .nilsl]), [], none⟩,
   ⟨none, .store 5 (.t 7) (.t 23), [6, 4, 2, 0, 1, 2, 3, 4, 6], none⟩,
   ⟨(some 8), .mov (.t 24), [5, 7, 0, 1, 2, 3, 4, 5, 6, 7], none⟩] [] [20, 21, 22, 19, 23, 24])
 (.seq (.region [⟨(some 25), .mov (.t 5), [], none⟩,
   ⟨(some 26), .mov (.t 6), [], none⟩,
   ⟨(some 27), .call .pure (.f 10) [(.t 25), (.t 26)], [0, 1], none⟩,
   ⟨(some 9), .alloc .dyn (.agg [(.int .i64 0), (.int .i64 0), (.int .i64 0), (.int .i64 0), .nilsl]), [], none⟩,
   ⟨none, .store 5 (.t 9) (.t 27), [3, 2, 2, 0, 1, 2, 3], none⟩] [] [5, 6, 25, 26, 27])
 (.seq (.seq (.region [⟨(some 28), .mov (.t 8), [], none⟩,
   ⟨(some 29), .bin .neq (.t 28) (.c (.int .i64 0)), [0], none⟩,
   ⟨(some 30), .mov (.t 29), [1], none⟩,
   ⟨(some 31), .faddr 0 (.t 7), [2], (some (30, false))⟩,
   ⟨(some 32), .load none (.t 31), [3, 2], (some (30, false))⟩,
   ⟨(some 33), .faddr 0 (.t 9), [2], (some (30, false))⟩,
   ⟨(some 34), .load none (.t 33), [5, 2], (some (30, false))⟩,
   ⟨(some 35), .bin .neq (.t 32) (.t 34), [4, 6, 2], (some (30, false))⟩,
   ⟨(some 36), .pick (.t 30) (.c (.bool true)) (.t 35), [2, 7], none⟩,
   ⟨(some 37), .mov (.t 36), [8, 2], none⟩,
   ⟨(some 38), .faddr 1 (.t 7), [9], (some (37, false))⟩,
   ⟨(some 39), .load none (.t 38), [10, 9], (some (37, false))⟩,
   ⟨(some 40), .faddr 1 (.t 9), [9], (some (37, false))⟩,
   ⟨(some 41), .load none (.t 40), [12, 9], (some (37, false))⟩,
   ⟨(some 42), .bin .neq (.t 39) (.t 41), [11, 13, 9], (some (37, false))⟩,
   ⟨(some 43), .pick (.t 37) (.c (.bool true)) (.t 42), [9, 14], none⟩,
   ⟨(some 44), .mov (.t 43), [15, 9], none⟩,
   ⟨(some 45), .faddr 2 (.t 7), [16], (some (44, false))⟩,
   ⟨(some 46), .load none (.t 45), [17, 16], (some (44, false))⟩,
   ⟨(some 47), .faddr 2 (.t 9), [16], (some (44, false))⟩,
   ⟨(some 48), .load none (.t 47), [19, 16], (some (44, false))⟩,
   ⟨(some 49), .bin .neq (.t 46) (.t 48), [18, 20, 16], (some (44, false))⟩,
   ⟨(some 50), .pick (.t 44) (.c (.bool true)) (.t 49), [16, 21], none⟩,
   ⟨(some 51), .mov (.t 50), [22, 16], none⟩,
   ⟨(some 52), .faddr 3 (.t 7), [23], (some (51, false))⟩,
   ⟨(some 53), .load none (.t 52), [24, 23], (some (51, false))⟩,
   ⟨(some 54), .faddr 3 (.t 9), [23], (some (51, false))⟩,
   ⟨(some 55), .load none (.t 54), [26, 23], (some (51, false))⟩,
   ⟨(some 56), .bin .neq (.t 53) (.t 55), [25, 27, 23], (some (51, false))⟩,
   ⟨(some 57), .pick (.t 51) (.c (.bool true)) (.t 56), [23, 28], none⟩,
   ⟨(some 58), .mov (.t 57), [29, 23], none⟩,
   ⟨(some 59), .faddr 4 (.t 7), [30], (some (58, false))⟩,
   ⟨(some 60), .load none (.t 59), [31, 30], (some (58, false))⟩,
   ⟨(some 61), .len 1 (.t 60), [32, 30], (some (58, false))⟩,
   ⟨(some 62), .faddr 4 (.t 9), [30], (some (58, false))⟩,
   ⟨(some 63), .load none (.t 62), [34, 30], (some (58, false))⟩,
   ⟨(some 64), .len 1 (.t 63), [35, 30], (some (58, false))⟩,
   ⟨(some 65), .bin .neq (.t 61) (.t 64), [33, 36, 30], (some (58, false))⟩,
   ⟨(some 66), .pick (.t 58) (.c (.bool true)) (.t 65), [30, 37], none⟩] [] [8, 28, 29, 30, 31, 32, 33, 34, 35, 36, 37, 38, 39, 40, 41, 42, 43, 44, 45, 46, 47, 48, 49, 50, 51, 52, 53, 54, 55, 56, 57, 58, 59, 60, 61, 62, 63, 64, 65])
 (.cond (.t 66)
  (.seq (.region [⟨(some 4), .mov (.c (.bool false)), [], none⟩] [] [7, 9, 66])
  .ret)
  .skip))
 (.seq (.seq (.region [⟨(some 10), .mov (.c (.int .i64 0)), [], none⟩] [] [4, 66])
 (.block 0 (.loop (.seq (.seq (.region [⟨(some 67), .mov (.t 10), [], none⟩,
   ⟨(some 68), .faddr 4 (.t 9), [], none⟩,
   ⟨(some 69), .load none (.t 68), [1], none⟩,
   ⟨(some 70), .len 1 (.t 69), [2], none⟩,
   ⟨(some 71), .bin .lss (.t 67) (.t 70), [0, 3], none⟩] [] [67, 68, 69, 70])
 (.cond (.t 71)
  .skip
  (.exit 0)))
 (.seq (.block 1 (.seq (.region [⟨(some 74), .faddr 4 (.t 7), [], none⟩,
   ⟨(some 75), .load none (.t 74), [0], none⟩,
   ⟨(some 76), .mov (.t 10), [], none⟩,
   ⟨(some 77), .iaddr none 2 (.t 75) (.t 76), [1, 2], none⟩,
   ⟨(some 78), .faddr 1 (.t 77), [3], none⟩,
   ⟨(some 79), .load none (.t 78), [4], none⟩,
   ⟨(some 80), .faddr 4 (.t 9), [], none⟩,
   ⟨(some 81), .load none (.t 80), [6], none⟩,
   ⟨(some 82), .mov (.t 10), [], none⟩,
   ⟨(some 83), .iaddr none 2 (.t 81) (.t 82), [7, 8], none⟩,
   ⟨(some 84), .faddr 1 (.t 83), [9], none⟩,
   ⟨(some 85), .load none (.t 84), [10], none⟩,
   ⟨(some 86), .bin .neq (.t 79) (.t 85), [5, 11], none⟩,
   ⟨(some 87), .mov (.t 86), [12], none⟩,
   ⟨(some 88), .faddr 4 (.t 7), [13], (some (87, false))⟩,
   ⟨(some 89), .load none (.t 88), [14, 13], (some (87, false))⟩,
   ⟨(some 90), .mov (.t 10), [13], (some (87, false))⟩,
   ⟨(some 91), .iaddr none 2 (.t 89) (.t 90), [15, 16, 13], (some (87, false))⟩,
   ⟨(some 92), .faddr 0 (.t 91), [17, 13], (some (87, false))⟩,
   ⟨(some 93), .load none (.t 92), [18, 13], (some (87, false))⟩,
   ⟨(some 94), .faddr 4 (.t 9), [13], (some (87, false))⟩,
   ⟨(some 95), .load none (.t 94), [20, 13], (some (87, false))⟩,
   ⟨(some 96), .mov (.t 10), [13], (some (87, false))⟩,
   ⟨(some 97), .iaddr none 2 (.t 95) (.t 96), [21, 22, 13], (some (87, false))⟩,
   ⟨(some 98), .faddr 0 (.t 97), [23, 13], (some (87, false))⟩,
   ⟨(some 99), .load none (.t 98), [24, 13], (some (87, false))⟩,
   ⟨(some 100), .call .heap (.f 11) [(.t 93), (.t 99)], [19, 25, 13, 13], (some (87, false))⟩,
   ⟨(some 101), .un .not (.t 100), [26, 13], (some (87, false))⟩,
   ⟨(some 102), .pick (.t 87) (.c (.bool true)) (.t 101), [13, 27], none⟩] [] [71, 74, 75, 76, 77, 78, 79, 80, 81, 82, 83, 84, 85, 86, 87])
 (.cond (.t 102)
  (.seq (.region [⟨(some 4), .mov (.c (.bool false)), [], none⟩] [] [7, 9, 10, 101, 100, 93, 99, 98, 97, 95, 96, 94, 92, 91, 89, 90, 88, 102])
  .ret)
  .skip)))
 (.region [⟨(some 72), .mov (.t 10), [], none⟩,
   ⟨(some 73), .bin .add (.t 72) (.c (.int .i64 1)), [0], none⟩,
   ⟨(some 10), .mov (.t 73), [1, 0, 1], none⟩] [] [4, 102, 72, 73]))))))
 (.seq (.region [⟨(some 4), .mov (.c (.bool true)), [], none⟩] [] [7, 9, 10, 101, 100, 93, 99, 98, 97, 95, 96, 94, 92, 91, 89, 90, 88])
 .ret))))))))⟩

-- overseer/overseerlaw59.CatalogueKinds
def s4 : SFn := ⟨139, [.tmp 4],
 (.seq (.region [⟨(some 4), .mov (.c (.bool false)), [], none⟩] [] [4])
 (.seq (.seq (.region [⟨(some 17), .call .pure (.f 7) [], [], none⟩,
   ⟨(some 18), .un .not (.t 17), [0], none⟩] [] [17])
 (.cond (.t 18)
  (.seq (.region [⟨(some 4), .mov (.c (.bool false)), [], none⟩] [] [0, 1, 18])
  .ret)
  .skip))
 (.seq (.region [⟨(some 20), .mov (.t 0), [], none⟩,
   ⟨(some 21), .call .pure (.f 12) [(.t 20)], [0], none⟩,
   ⟨(some 19), .mov (.t 21), [1], none⟩,
   ⟨(some 22), .extract 0 (.t 19), [2], none⟩,
   ⟨(some 23), .extract 1 (.t 19), [2], none⟩,
   ⟨(some 5), .mov (.t 22), [3, 1, 0, 1, 2, 3], none⟩,
   ⟨(some 6), .mov (.t 23), [4, 5, 0, 1, 2, 3, 4, 5], none⟩] [] [4, 18, 20, 21, 19, 22, 23])
 (.seq (.region [⟨(some 25), .mov (.t 0), [], none⟩,
   ⟨(some 26), .call .pure (.f 13) [(.t 25)], [0], none⟩,
   ⟨(some 24), .mov (.t 26), [1], none⟩,
   ⟨(some 27), .extract 0 (.t 24), [2], none⟩,
   ⟨(some 28), .extract 1 (.t 24), [2], none⟩,
   ⟨(some 29), .extract 2 (.t 24), [2], none⟩,
   ⟨(some 7), .mov (.t 27), [3, 1, 0, 1, 2, 3], none⟩,
   ⟨(some 8), .mov (.t 28), [4, 6, 0, 1, 2, 3, 4, 6], none⟩,
   ⟨(some 9), .mov (.t 29), [5, 7, 0, 1, 2, 3, 4, 5, 6, 7], none⟩] [] [25, 26, 24, 27, 28, 29])
 (.seq (.region [⟨(some 31), .mov (.t 0), [], none⟩,
   ⟨(some 32), .mov (.t 1), [], none⟩,
   ⟨(some 33), .call .heap (.f 14) [(.t 31), (.t 32)], [0, 1], none⟩,
   ⟨(some 30), .mov (.t 33), [2], none⟩,
   ⟨(some 34), .extract 0 (.t 30), [3], none⟩,
   ⟨(some 35), .extract 1 (.t 30), [3], none⟩,
   ⟨(some 10), .alloc .dyn (.agg [.nilsl, .nilsl, .nilsl, .nilsl, .nilsl]), [], none⟩,
   ⟨none, .store 5 (.t 10) (.t 34), [6, 4, 2, 0, 1, 2, 3, 4, 6], none⟩,
   ⟨(some 11), .mov (.t 35), [5, 7, 0, 1, 2, 3, 4, 5, 6, 7], none⟩] [] [31, 32, 33, 30, 34, 35])
 (.seq (.region [⟨(some 37), .mov (.t 0), [], none⟩,
   ⟨(some 38), .mov (.t 1), [], none⟩,
   ⟨(some 39), .call .pure (.f 9) [(.t 37), (.t 38)], [0, 1], none⟩,
   ⟨(some 36), .mov (.t 39), [2], none⟩,
   ⟨(some 40), .extract 0 (.t 36), [3], none⟩,
   ⟨(some 41), .extract 1 (.t 36), [3], none⟩,
   ⟨(some 12), .alloc .dyn (.agg [(.int .i64 0), (.int .i64 0), (.int .i64 0), (.int .i64 0), .nilsl]), [], none⟩,
   ⟨none, .store 5 (.t 12) (.t 40), [6, 4, 2, 0, 1, 2, 3, 4, 6], none⟩,
   ⟨(some 13), .mov (.t 41), [5, 7, 0, 1, 2, 3, 4, 5, 6, 7], none⟩] [] [37, 38, 39, 36, 40, 41])
 (.seq (.seq (.region [⟨(some 42), .call .heap (.f 15) [], [], none⟩,
   ⟨(some 43), .bslice false .dyn 1 5 [(.int .i64 0), (.int .i64 0), (.int .i64 0), (.int .i64 0), (.int .i64 0)] [(0, 1, (.c (.int .i64 1))), (1, 1, (.c (.int .i64 2))), (2, 1, (.c (.int .i64 3))), (3, 1, (.c (.int .i64 4))), (4, 1, (.c (.int .i64 5)))], [], none⟩,
   ⟨(some 44), .call .heap (.f 11) [(.t 42), (.t 43)], [0, 1, 0], none⟩,
   ⟨(some 45), .un .not (.t 44), [2], none⟩] [] [42, 43, 44])
 (.cond (.t 45)
  (.seq (.region [⟨(some 4), .mov (.c (.bool false)), [], none⟩] [] [0, 1, 5, 6, 7, 8, 9, 10, 11, 12, 13, 45])
  .ret)
  .skip))
 (.seq (.region [⟨(some 14), .mov (.c (.int .i64 0)), [], none⟩] [] [4, 45])
 (.seq (.seq (.region [⟨(some 46), .mov (.t 0), [], none⟩,
   ⟨(some 47), .bin .lss (.t 46) (.c (.int .i64 1)), [0], none⟩,
   ⟨(some 48), .mov (.t 47), [1], none⟩,
   ⟨(some 49), .mov (.t 0), [2], (some (48, false))⟩,
   ⟨(some 50), .bin .gtr (.t 49) (.c (.int .i64 5)), [3, 2], (some (48, false))⟩,
   ⟨(some 51), .pick (.t 48) (.c (.bool true)) (.t 50), [2, 4], none⟩] [] [46, 47, 48, 49, 50])
 (.cond (.t 51)
  (.seq (.seq (.region [⟨(some 52), .mov (.t 5), [], none⟩,
    ⟨(some 53), .bin .neq (.t 52) (.c (.str [])), [0], none⟩,
    ⟨(some 54), .mov (.t 53), [1], none⟩,
    ⟨(some 55), .mov (.t 6), [2], (some (54, false))⟩,
    ⟨(some 56), .bin .neq (.t 55) (.c (.int .i64 11)), [3, 2], (some (54, false))⟩,
    ⟨(some 57), .pick (.t 54) (.c (.bool true)) (.t 56), [2, 4], none⟩,
    ⟨(some 58), .mov (.t 57), [5, 2], none⟩,
    ⟨(some 59), .mov (.t 7), [6], (some (58, false))⟩,
    ⟨(some 60), .mov (.t 8), [6], (some (58, false))⟩,
    ⟨(some 61), .bin .add (.t 59) (.t 60), [7, 8, 6], (some (58, false))⟩,
    ⟨(some 62), .bin .neq (.t 61) (.c (.int .i64 0)), [9, 6], (some (58, false))⟩,
    ⟨(some 63), .pick (.t 58) (.c (.bool true)) (.t 62), [6, 10], none⟩,
    ⟨(some 64), .mov (.t 63), [11, 6], none⟩,
    ⟨(some 65), .mov (.t 9), [12], (some (64, false))⟩,
    ⟨(some 66), .bin .neq (.t 65) (.c (.int .i64 11)), [13, 12], (some (64, false))⟩,
    ⟨(some 67), .pick (.t 64) (.c (.bool true)) (.t 66), [12, 14], none⟩] [] [0, 1, 5, 6, 7, 8, 9, 14, 51, 52, 53, 54, 55, 56, 57, 58, 59, 60, 61, 62, 63, 64, 65, 66])
  (.cond (.t 67)
   (.seq (.region [⟨(some 4), .mov (.c (.bool false)), [], none⟩] [] [10, 11, 12, 13, 67])
   .ret)
   .skip))
  (.region [⟨(some 14), .mov (.c (.int .i64 11)), [], none⟩] [] [4, 67]))
  (.seq (.region [⟨(some 69), .mov (.t 0), [], none⟩,
    ⟨(some 70), .call .pure (.f 16) [(.t 69)], [0], none⟩,
    ⟨(some 68), .mov (.t 70), [1], none⟩,
    ⟨(some 71), .extract 0 (.t 68), [2], none⟩,
    ⟨(some 72), .extract 1 (.t 68), [2], none⟩,
    ⟨(some 15), .mov (.t 71), [3, 1, 0, 1, 2, 3], none⟩,
    ⟨(some 16), .mov (.t 72), [4, 5, 0, 1, 2, 3, 4, 5], none⟩] [] [51, 69, 70, 68, 71, 72])
  (.seq (.seq (.region [⟨(some 73), .mov (.t 5), [], none⟩,
    ⟨(some 74), .bslice false .dyn 1 5 [(.str []), (.str []), (.str []), (.str []), (.str [])] [(0, 1, (.c (.str [102, 97, 99, 116, 111, 114, 121]))), (1, 1, (.c (.str [108, 105, 110, 101]))), (2, 1, (.c (.str [100, 105, 110, 105, 110, 103]))), (3, 1, (.c (.str [122, 111, 110, 101]))), (4, 1, (.c (.str [97, 108, 116, 101, 114, 110, 97, 116, 101])))], [], none⟩,
    ⟨(some 75), .mov (.t 0), [], none⟩,
    ⟨(some 76), .bin .sub (.t 75) (.c (.int .i64 1)), [2], none⟩,
    ⟨(some 77), .iaddr none 1 (.t 74) (.t 76), [1, 3], none⟩,
    ⟨(some 78), .load none (.t 77), [4], none⟩,
    ⟨(some 79), .bin .neq (.t 73) (.t 78), [0, 5], none⟩,
    ⟨(some 80), .mov (.t 79), [6], none⟩,
    ⟨(some 81), .mov (.t 6), [7], (some (80, false))⟩,
    ⟨(some 82), .bin .neq (.t 81) (.c (.int .i64 0)), [8, 7], (some (80, false))⟩,
    ⟨(some 83), .pick (.t 80) (.c (.bool true)) (.t 82), [7, 9], none⟩,
    ⟨(some 84), .mov (.t 83), [10, 7], none⟩,
    ⟨(some 85), .mov (.t 7), [11], (some (84, false))⟩,
    ⟨(some 86), .mov (.t 15), [11], (some (84, false))⟩,
    ⟨(some 87), .bin .neq (.t 85) (.t 86), [12, 13, 11], (some (84, false))⟩,
    ⟨(some 88), .pick (.t 84) (.c (.bool true)) (.t 87), [11, 14], none⟩,
    ⟨(some 89), .mov (.t 88), [15, 11], none⟩,
    ⟨(some 90), .mov (.t 8), [16], (some (89, false))⟩,
    ⟨(some 91), .mov (.t 16), [16], (some (89, false))⟩,
    ⟨(some 92), .bin .neq (.t 90) (.t 91), [17, 18, 16], (some (89, false))⟩,
    ⟨(some 93), .pick (.t 89) (.c (.bool true)) (.t 92), [16, 19], none⟩,
    ⟨(some 94), .mov (.t 93), [20, 16], none⟩,
    ⟨(some 95), .mov (.t 9), [21], (some (94, false))⟩,
    ⟨(some 96), .bin .neq (.t 95) (.c (.int .i64 0)), [22, 21], (some (94, false))⟩,
    ⟨(some 97), .pick (.t 94) (.c (.bool true)) (.t 96), [21, 23], none⟩] [] [0, 5, 6, 7, 8, 9, 73, 74, 75, 76, 77, 78, 79, 80, 81, 82, 83, 84, 85, 86, 87, 88, 89, 90, 91, 92, 93, 94, 95, 96])
  (.cond (.t 97)
   (.seq (.region [⟨(some 4), .mov (.c (.bool false)), [], none⟩] [] [1, 10, 11, 12, 13, 14, 15, 16, 97])
   .ret)
   .skip))
  (.seq (.region [⟨(some 98), .mov (.t 1), [], none⟩,
    ⟨(some 99), .mov (.t 15), [], none⟩,
    ⟨(some 100), .bin .lss (.t 98) (.t 99), [0, 1], none⟩,
    ⟨(some 101), .mov (.t 100), [2], none⟩,
    ⟨(some 102), .mov (.t 1), [3], (some (101, false))⟩,
    ⟨(some 103), .mov (.t 16), [3], (some (101, false))⟩,
    ⟨(some 104), .bin .gtr (.t 102) (.t 103), [4, 5, 3], (some (101, false))⟩,
    ⟨(some 105), .pick (.t 101) (.c (.bool true)) (.t 104), [3, 6], none⟩] [] [4, 1, 15, 16, 97, 98, 99, 100, 101, 102, 103, 104])
  (.cond (.t 105)
   (.region [⟨(some 14), .mov (.c (.int .i64 2)), [], none⟩] [] [105])
   .skip))))))
 (.seq (.seq (.region [⟨(some 106), .mov (.t 14), [], none⟩,
   ⟨(some 107), .bin .neq (.t 106) (.c (.int .i64 0)), [0], none⟩] [] [105, 106])
 (.cond (.t 107)
  (.seq (.region [⟨(some 108), .faddr 1 (.t 10), [], none⟩,
    ⟨(some 109), .load none (.t 108), [0], none⟩,
    ⟨(some 110), .len 1 (.t 109), [1], none⟩,
    ⟨(some 111), .bin .eql (.t 110) (.c (.int .i64 0)), [2], none⟩,
    ⟨(some 112), .mov (.t 111), [3], none⟩,
    ⟨(some 113), .mov (.t 11), [4], (some (112, true))⟩,
    ⟨(some 114), .mov (.t 14), [4], (some (112, true))⟩,
    ⟨(some 115), .bin .eql (.t 113) (.t 114), [5, 6, 4], (some (112, true))⟩,
    ⟨(some 116), .pick (.t 112) (.t 115) (.c (.bool false)), [4, 7], none⟩,
    ⟨(some 117), .mov (.t 116), [8, 4], none⟩,
    ⟨(some 118), .faddr 0 (.t 12), [9], (some (117, true))⟩,
    ⟨(some 119), .load none (.t 118), [10, 9], (some (117, true))⟩,
    ⟨(some 120), .bin .eql (.t 119) (.c (.int .i64 0)), [11, 9], (some (117, true))⟩,
    ⟨(some 121), .pick (.t 117) (.t 120) (.c (.bool false)), [9, 12], none⟩,
    ⟨(some 122), .mov (.t 121), [13, 9], none⟩,
    ⟨(some 123), .faddr 4 (.t 12), [14], (some (122, true))⟩,
    ⟨(some 124), .load none (.t 123), [15, 14], (some (122, true))⟩,
    ⟨(some 125), .len 1 (.t 124), [16, 14], (some (122, true))⟩,
    ⟨(some 126), .bin .eql (.t 125) (.c (.int .i64 0)), [17, 14], (some (122, true))⟩,
    ⟨(some 127), .pick (.t 122) (.t 126) (.c (.bool false)), [14, 18], none⟩,
    ⟨(some 128), .mov (.t 127), [19, 14], none⟩,
    ⟨(some 129), .mov (.t 13), [20], (some (128, true))⟩,
    ⟨(some 130), .mov (.t 14), [20], (some (128, true))⟩,
    ⟨(some 131), .bin .eql (.t 129) (.t 130), [21, 22, 20], (some (128, true))⟩,
    ⟨(some 132), .pick (.t 128) (.t 131) (.c (.bool false)), [20, 23], none⟩,
    ⟨(some 4), .mov (.t 132), [24, 20, 0, 1, 2, 3, 4, 5, 6, 7, 8, 9, 10, 11, 12, 13, 14, 15, 16, 17, 18, 19, 20, 21, 22, 23, 24], none⟩] [] [10, 11, 12, 13, 14, 107, 108, 109, 110, 111, 112, 113, 114, 115, 116, 117, 118, 119, 120, 121, 122, 123, 124, 125, 126, 127, 128, 129, 130, 131, 132])
  .ret)
  .skip))
 (.seq (.region [⟨(some 133), .mov (.t 11), [], none⟩,
   ⟨(some 134), .bin .eql (.t 133) (.c (.int .i64 0)), [0], none⟩,
   ⟨(some 135), .mov (.t 134), [1], none⟩,
   ⟨(some 136), .mov (.t 13), [2], (some (135, true))⟩,
   ⟨(some 137), .bin .eql (.t 136) (.c (.int .i64 0)), [3, 2], (some (135, true))⟩,
   ⟨(some 138), .pick (.t 135) (.t 137) (.c (.bool false)), [2, 4], none⟩,
   ⟨(some 4), .mov (.t 138), [5, 2, 0, 1, 2, 3, 4, 5], none⟩] [] [10, 11, 12, 13, 14, 107, 133, 134, 135, 136, 137, 138])
 .ret)))))))))))⟩

-- overseer/overseerlaw59.CatalogueSame
def s5 : SFn := ⟨115, [.tmp 2],
 (.seq (.region [⟨(some 2), .mov (.c (.bool false)), [], none⟩] [] [2])
 (.seq (.seq (.region [⟨(some 12), .call .pure (.f 7) [], [], none⟩,
   ⟨(some 13), .un .not (.t 12), [0], none⟩] [] [12])
 (.cond (.t 13)
  (.seq (.region [⟨(some 2), .mov (.c (.bool false)), [], none⟩] [] [0, 13])
  .ret)
  .skip))
 (.seq (.region [⟨(some 15), .call .heap (.f 14) [(.c (.int .i64 1)), (.c (.int .i64 1))], [], none⟩,
   ⟨(some 14), .mov (.t 15), [0], none⟩,
   ⟨(some 16), .extract 0 (.t 14), [1], none⟩,
   ⟨(some 17), .extract 1 (.t 14), [1], none⟩,
   ⟨(some 3), .alloc .dyn (.agg [.nilsl, .nilsl, .nilsl, .nilsl, .nilsl]), [], none⟩,
   ⟨none, .store 5 (.t 3) (.t 16), [4, 2, 0, 0, 1, 2, 4], none⟩,
   ⟨(some 4), .mov (.t 17), [3, 5, 0, 1, 2, 3, 4, 5], none⟩] [] [2, 13, 15, 14, 16, 17])
 (.seq (.region [⟨(some 19), .call .heap (.f 14) [(.c (.int .i64 2)), (.c (.int .i64 2))], [], none⟩,
   ⟨(some 18), .mov (.t 19), [0], none⟩,
   ⟨(some 20), .extract 0 (.t 18), [1], none⟩,
   ⟨(some 21), .extract 1 (.t 18), [1], none⟩,
   ⟨(some 5), .alloc .dyn (.agg [.nilsl, .nilsl, .nilsl, .nilsl, .nilsl]), [], none⟩,
   ⟨none, .store 5 (.t 5) (.t 20), [4, 2, 0, 0, 1, 2, 4], none⟩,
   ⟨(some 6), .mov (.t 21), [3, 5, 0, 1, 2, 3, 4, 5], none⟩] [] [19, 18, 20, 21])
 (.seq (.region [⟨(some 22), .mov (.t 0), [], none⟩,
   ⟨(some 23), .bin .rem (.t 22) (.c (.int .u8 4)), [0], none⟩,
   ⟨(some 24), .conv .i64 (.t 23), [1], none⟩,
   ⟨(some 25), .bin .add (.c (.int .i64 3)) (.t 24), [2], none⟩,
   ⟨(some 7), .mov (.t 25), [3, 0, 1, 2, 3], none⟩] [] [0, 22, 23, 24, 25])
 (.seq (.region [⟨(some 27), .mov (.t 7), [], none⟩,
   ⟨(some 28), .call .heap (.f 14) [(.c (.int .i64 2)), (.t 27)], [0], none⟩,
   ⟨(some 26), .mov (.t 28), [1], none⟩,
   ⟨(some 29), .extract 0 (.t 26), [2], none⟩,
   ⟨(some 30), .extract 1 (.t 26), [2], none⟩,
   ⟨(some 8), .alloc .dyn (.agg [.nilsl, .nilsl, .nilsl, .nilsl, .nilsl]), [], none⟩,
   ⟨none, .store 5 (.t 8) (.t 29), [5, 3, 1, 0, 1, 2, 3, 5], none⟩,
   ⟨(some 9), .mov (.t 30), [4, 6, 0, 1, 2, 3, 4, 5, 6], none⟩] [] [27, 28, 26, 29, 30])
 (.seq (.region [⟨(some 32), .mov (.t 7), [], none⟩,
   ⟨(some 33), .bin .sub (.t 32) (.c (.int .i64 1)), [0], none⟩,
   ⟨(some 34), .call .heap (.f 14) [(.c (.int .i64 2)), (.t 33)], [1], none⟩,
   ⟨(some 31), .mov (.t 34), [2], none⟩,
   ⟨(some 35), .extract 0 (.t 31), [3], none⟩,
   ⟨(some 36), .extract 1 (.t 31), [3], none⟩,
   ⟨(some 10), .alloc .dyn (.agg [.nilsl, .nilsl, .nilsl, .nilsl, .nilsl]), [], none⟩,
   ⟨none, .store 5 (.t 10) (.t 35), [6, 4, 2, 0, 1, 2, 3, 4, 6], none⟩,
   ⟨(some 11), .mov (.t 36), [5, 7, 0, 1, 2, 3, 4, 5, 6, 7], none⟩] [] [32, 33, 34, 31, 35, 36])
 (.seq (.seq (.region [⟨(some 37), .mov (.t 4), [], none⟩,
   ⟨(some 38), .bin .neq (.t 37) (.c (.int .i64 0)), [0], none⟩,
   ⟨(some 39), .mov (.t 38), [1], none⟩,
   ⟨(some 40), .mov (.t 6), [2], (some (39, false))⟩,
   ⟨(some 41), .bin .neq (.t 40) (.c (.int .i64 0)), [3, 2], (some (39, false))⟩,
   ⟨(some 42), .pick (.t 39) (.c (.bool true)) (.t 41), [2, 4], none⟩,
   ⟨(some 43), .mov (.t 42), [5, 2], none⟩,
   ⟨(some 44), .mov (.t 9), [6], (some (43, false))⟩,
   ⟨(some 45), .bin .neq (.t 44) (.c (.int .i64 0)), [7, 6], (some (43, false))⟩,
   ⟨(some 46), .pick (.t 43) (.c (.bool true)) (.t 45), [6, 8], none⟩,
   ⟨(some 47), .mov (.t 46), [9, 6], none⟩,
   ⟨(some 48), .mov (.t 11), [10], (some (47, false))⟩,
   ⟨(some 49), .bin .neq (.t 48) (.c (.int .i64 0)), [11, 10], (some (47, false))⟩,
   ⟨(some 50), .pick (.t 47) (.c (.bool true)) (.t 49), [10, 12], none⟩,
   ⟨(some 51), .mov (.t 50), [13, 10], none⟩,
   ⟨(some 52), .load (some 5) (.t 3), [14], (some (51, false))⟩,
   ⟨(some 53), .load (some 5) (.t 5), [14], (some (51, false))⟩,
   ⟨(some 54), .call .heap (.f 17) [(.t 52), (.t 53)], [15, 16, 14, 14], (some (51, false))⟩,
   ⟨(some 55), .un .not (.t 54), [17, 14], (some (51, false))⟩,
   ⟨(some 56), .pick (.t 51) (.c (.bool true)) (.t 55), [14, 18], none⟩,
   ⟨(some 57), .mov (.t 56), [19, 17], none⟩,
   ⟨(some 58), .faddr 1 (.t 8), [20], (some (57, false))⟩,
   ⟨(some 59), .load none (.t 58), [21, 20], (some (57, false))⟩,
   ⟨(some 60), .len 1 (.t 59), [22, 20], (some (57, false))⟩,
   ⟨(some 61), .mov (.t 7), [20], (some (57, false))⟩,
   ⟨(some 62), .bin .neq (.t 60) (.t 61), [23, 24, 20], (some (57, false))⟩,
   ⟨(some 63), .pick (.t 57) (.c (.bool true)) (.t 62), [20, 25], none⟩,
   ⟨(some 64), .mov (.t 63), [26, 20], none⟩,
   ⟨(some 65), .faddr 2 (.t 8), [27], (some (64, false))⟩,
   ⟨(some 66), .load none (.t 65), [28, 27], (some (64, false))⟩,
   ⟨(some 67), .len 1 (.t 66), [29, 27], (some (64, false))⟩,
   ⟨(some 68), .mov (.t 7), [27], (some (64, false))⟩,
   ⟨(some 69), .bin .sub (.t 68) (.c (.int .i64 1)), [31, 27], (some (64, false))⟩,
   ⟨(some 70), .bin .neq (.t 67) (.t 69), [30, 32, 27], (some (64, false))⟩,
   ⟨(some 71), .pick (.t 64) (.c (.bool true)) (.t 70), [27, 33], none⟩,
   ⟨(some 72), .mov (.t 71), [34, 27], none⟩,
   ⟨(some 73), .faddr 0 (.t 8), [35], (some (72, false))⟩,
   ⟨(some 74), .load none (.t 73), [36, 35], (some (72, false))⟩,
   ⟨(some 75), .len 1 (.t 74), [37, 35], (some (72, false))⟩,
   ⟨(some 76), .mov (.t 7), [35], (some (72, false))⟩,
   ⟨(some 77), .bin .mul (.c (.int .i64 2)) (.t 76), [39, 35], (some (72, false))⟩,
   ⟨(some 78), .bin .neq (.t 75) (.t 77), [38, 40, 35], (some (72, false))⟩,
   ⟨(some 79), .pick (.t 72) (.c (.bool true)) (.t 78), [35, 41], none⟩] [] [3, 4, 5, 6, 9, 11, 37, 38, 39, 40, 41, 42, 43, 44, 45, 46, 47, 48, 49, 50, 51, 52, 53, 54, 55, 56, 57, 58, 59, 60, 61, 62, 63, 64, 65, 66, 67, 68, 69, 70, 71, 72, 73, 74, 75, 76, 77, 78])
 (.cond (.t 79)
  (.seq (.region [⟨(some 2), .mov (.c (.bool false)), [], none⟩] [] [7, 8, 10, 79])
  .ret)
  .skip))
 (.seq (.region [⟨(some 80), .faddr 1 (.t 8), [], none⟩,
   ⟨(some 81), .load none (.t 80), [0], none⟩,
   ⟨(some 82), .mov (.t 7), [], none⟩,
   ⟨(some 83), .bin .sub (.t 82) (.c (.int .i64 1)), [2], none⟩,
   ⟨(some 84), .slice (some 5) (.t 81) none (some (.t 83)) none, [1, 3], none⟩,
   ⟨(some 85), .faddr 2 (.t 8), [], none⟩,
   ⟨(some 86), .load none (.t 85), [5], none⟩,
   ⟨(some 87), .mov (.t 7), [], none⟩,
   ⟨(some 88), .bin .sub (.t 87) (.c (.int .i64 2)), [7], none⟩,
   ⟨(some 89), .slice (some 5) (.t 86) none (some (.t 88)) none, [6, 8], none⟩,
   ⟨(some 90), .faddr 0 (.t 8), [], none⟩,
   ⟨(some 91), .load none (.t 90), [10], none⟩,
   ⟨(some 92), .mov (.t 7), [], none⟩,
   ⟨(some 93), .bin .mul (.c (.int .i64 2)) (.t 92), [12], none⟩,
   ⟨(some 94), .bin .sub (.t 93) (.c (.int .i64 2)), [13], none⟩,
   ⟨(some 95), .slice (some 5) (.t 91) none (some (.t 94)) none, [11, 14], none⟩,
   ⟨(some 96), .faddr 1 (.t 8), [0, 1, 2, 3, 4, 5, 6, 10, 11], none⟩,
   ⟨none, .store 1 (.t 96) (.t 84), [16, 4, 0, 1, 2, 3, 4, 5, 6, 10, 11], none⟩,
   ⟨(some 97), .faddr 2 (.t 8), [0, 1, 2, 3, 4, 5, 6, 7, 8, 9, 10, 11, 16, 17], none⟩,
   ⟨none, .store 1 (.t 97) (.t 89), [18, 9, 17, 0, 1, 2, 3, 4, 5, 6, 7, 8, 9, 10, 11, 16, 17], none⟩,
   ⟨(some 98), .faddr 0 (.t 8), [0, 1, 2, 3, 4, 5, 6, 7, 8, 9, 10, 11, 12, 13, 14, 15, 16, 17, 18, 19], none⟩,
   ⟨none, .store 1 (.t 98) (.t 95), [20, 15, 19, 0, 1, 2, 3, 4, 5, 6, 7, 8, 9, 10, 11, 12, 13, 14, 15, 16, 17, 18, 19], none⟩] [] [2, 79, 80, 81, 82, 83, 84, 85, 86, 87, 88, 89, 90, 91, 92, 93, 94, 95, 96, 97, 98])
 (.seq (.region [⟨(some 99), .load (some 5) (.t 8), [], none⟩,
   ⟨(some 100), .load (some 5) (.t 10), [], none⟩,
   ⟨(some 101), .call .heap (.f 17) [(.t 99), (.t 100)], [0, 1], none⟩,
   ⟨(some 102), .mov (.t 101), [2, 2], none⟩,
   ⟨(some 103), .faddr 1 (.t 8), [3], (some (102, true))⟩,
   ⟨(some 104), .load none (.t 103), [4, 3], (some (102, true))⟩,
   ⟨(some 105), .iaddr none 5 (.t 104) (.c (.int .i64 0)), [5, 3], (some (102, true))⟩,
   ⟨(some 106), .faddr 1 (.t 105), [6, 3], (some (102, true))⟩,
   ⟨(some 107), .faddr 0 (.t 106), [7, 3], (some (102, true))⟩,
   ⟨(some 108), .load none (.t 107), [8, 3], (some (102, true))⟩,
   ⟨(some 109), .mov (.t 7), [3], (some (102, true))⟩,
   ⟨(some 110), .bin .mul (.c (.int .i64 2)) (.t 109), [10, 3], (some (102, true))⟩,
   ⟨(some 111), .bin .sub (.t 110) (.c (.int .i64 2)), [11, 3], (some (102, true))⟩,
   ⟨(some 112), .call .heap (.f 18) [(.t 108), (.t 111)], [9, 12, 3, 3], (some (102, true))⟩,
   ⟨(some 113), .un .not (.t 112), [13, 3], (some (102, true))⟩,
   ⟨(some 114), .pick (.t 102) (.t 113) (.c (.bool false)), [3, 14], none⟩,
   ⟨(some 2), .mov (.t 114), [15, 13, 0, 1, 2, 3, 4, 5, 6, 7, 8, 9, 10, 11, 12, 13, 14, 15], none⟩] [] [7, 8, 10, 99, 100, 101, 102, 103, 104, 105, 106, 107, 108, 109, 110, 111, 112, 113, 114])
 .ret))))))))))⟩

-- overseer/overseerlaw59.known
def s7 : SFn := ⟨123, [.tmp 0],
 (.seq (.region [⟨(some 0), .mov (.c (.bool false)), [], none⟩] [] [0])
 (.seq (.region [⟨(some 15), .call .heap (.f 14) [(.c (.int .i64 1)), (.c (.int .i64 1))], [], none⟩,
   ⟨(some 14), .mov (.t 15), [0], none⟩,
   ⟨(some 16), .extract 0 (.t 14), [1], none⟩,
   ⟨(some 17), .extract 1 (.t 14), [1], none⟩,
   ⟨(some 1), .alloc .dyn (.agg [.nilsl, .nilsl, .nilsl, .nilsl, .nilsl]), [], none⟩,
   ⟨none, .store 5 (.t 1) (.t 16), [4, 2, 0, 0, 1, 2, 4], none⟩,
   ⟨(some 2), .mov (.t 17), [3, 5, 0, 1, 2, 3, 4, 5], none⟩] [] [15, 14, 16, 17])
 (.seq (.region [⟨(some 19), .call .pure (.f 9) [(.c (.int .i64 1)), (.c (.int .i64 1))], [], none⟩,
   ⟨(some 18), .mov (.t 19), [0], none⟩,
   ⟨(some 20), .extract 0 (.t 18), [1], none⟩,
   ⟨(some 21), .extract 1 (.t 18), [1], none⟩,
   ⟨(some 3), .alloc .dyn (.agg [(.int .i64 0), (.int .i64 0), (.int .i64 0), (.int .i64 0), .nilsl]), [], none⟩,
   ⟨none, .store 5 (.t 3) (.t 20), [4, 2, 0, 0, 1, 2, 4], none⟩,
   ⟨(some 4), .mov (.t 21), [3, 5, 0, 1, 2, 3, 4, 5], none⟩] [] [19, 18, 20, 21])
 (.seq (.region [⟨(some 23), .call .heap (.f 14) [(.c (.int .i64 3)), (.c (.int .i64 2))], [], none⟩,
   ⟨(some 22), .mov (.t 23), [0], none⟩,
   ⟨(some 24), .extract 0 (.t 22), [1], none⟩,
   ⟨(some 25), .extract 1 (.t 22), [1], none⟩,
   ⟨(some 5), .alloc .dyn (.agg [.nilsl, .nilsl, .nilsl, .nilsl, .nilsl]), [], none⟩,
   ⟨none, .store 5 (.t 5) (.t 24), [4, 2, 0, 0, 1, 2, 4], none⟩,
   ⟨(some 6), .mov (.t 25), [3, 5, 0, 1, 2, 3, 4, 5], none⟩] [] [23, 22, 24, 25])
 (.seq (.region [⟨(some 27), .call .heap (.f 20) [(.c (.int .i64 3))], [], none⟩,
   ⟨(some 26), .mov (.t 27), [0], none⟩,
   ⟨(some 28), .extract 0 (.t 26), [1], none⟩,
   ⟨(some 29), .extract 1 (.t 26), [1], none⟩,
   ⟨(some 7), .alloc .dyn (.agg [(.int .i64 0), (.int .i64 0), .nilsl, .nilsl]), [], none⟩,
   ⟨none, .store 4 (.t 7) (.t 28), [4, 2, 0, 0, 1, 2, 4], none⟩,
   ⟨(some 8), .mov (.t 29), [3, 5, 0, 1, 2, 3, 4, 5], none⟩] [] [27, 26, 28, 29])
 (.seq (.region [⟨(some 31), .call .heap (.f 27) [(.c (.int .i64 0))], [], none⟩,
   ⟨(some 30), .mov (.t 31), [0], none⟩,
   ⟨(some 32), .extract 0 (.t 30), [1], none⟩,
   ⟨(some 33), .extract 1 (.t 30), [1], none⟩,
   ⟨(some 34), .extract 2 (.t 30), [1], none⟩,
   ⟨(some 35), .extract 3 (.t 30), [1], none⟩,
   ⟨(some 36), .extract 4 (.t 30), [1], none⟩,
   ⟨(some 10), .alloc .dyn (.agg [.nilsl, (.int .i64 0), .nilsl, .nilsl]), [], none⟩,
   ⟨(some 9), .mov (.t 32), [2, 0, 0, 1, 2, 7], none⟩,
   ⟨none, .store 4 (.t 10) (.t 33), [7, 3, 8, 0, 1, 2, 3, 7, 8], none⟩,
   ⟨(some 11), .mov (.t 34), [4, 9, 0, 1, 2, 3, 4, 7, 8, 9], none⟩,
   ⟨(some 12), .mov (.t 35), [5, 10, 0, 1, 2, 3, 4, 5, 7, 8, 9, 10], none⟩,
   ⟨(some 13), .mov (.t 36), [6, 11, 0, 1, 2, 3, 4, 5, 6, 7, 8, 9, 10, 11], none⟩] [] [31, 30, 32, 33, 34, 35, 36])
 (.seq (.region [⟨(some 37), .mov (.t 2), [], none⟩,
   ⟨(some 38), .bin .eql (.t 37) (.c (.int .i64 0)), [0], none⟩,
   ⟨(some 39), .mov (.t 38), [1], none⟩,
   ⟨(some 40), .faddr 1 (.t 1), [2], (some (39, true))⟩,
   ⟨(some 41), .load none (.t 40), [3, 2], (some (39, true))⟩,
   ⟨(some 42), .len 1 (.t 41), [4, 2], (some (39, true))⟩,
   ⟨(some 43), .bin .eql (.t 42) (.c (.int .i64 2)), [5, 2], (some (39, true))⟩,
   ⟨(some 44), .pick (.t 39) (.t 43) (.c (.bool false)), [2, 6], none⟩,
   ⟨(some 45), .mov (.t 44), [7, 2], none⟩,
   ⟨(some 46), .faddr 2 (.t 1), [8], (some (45, true))⟩,
   ⟨(some 47), .load none (.t 46), [9, 8], (some (45, true))⟩,
   ⟨(some 48), .len 1 (.t 47), [10, 8], (some (45, true))⟩,
   ⟨(some 49), .bin .eql (.t 48) (.c (.int .i64 1)), [11, 8], (some (45, true))⟩,
   ⟨(some 50), .pick (.t 45) (.t 49) (.c (.bool false)), [8, 12], none⟩,
   ⟨(some 51), .mov (.t 50), [13, 8], none⟩,
   ⟨(some 52), .mov (.t 4), [14], (some (51, true))⟩,
   ⟨(some 53), .bin .eql (.t 52) (.c (.int .i64 0)), [15, 14], (some (51, true))⟩,
   ⟨(some 54), .pick (.t 51) (.t 53) (.c (.bool false)), [14, 16], none⟩,
   ⟨(some 55), .mov (.t 54), [17, 14], none⟩,
   ⟨(some 56), .faddr 0 (.t 3), [18], (some (55, true))⟩,
   ⟨(some 57), .load none (.t 56), [19, 18], (some (55, true))⟩,
   ⟨(some 58), .bin .eql (.t 57) (.c (.int .i64 8)), [20, 18], (some (55, true))⟩,
   ⟨(some 59), .pick (.t 55) (.t 58) (.c (.bool false)), [18, 21], none⟩,
   ⟨(some 60), .mov (.t 59), [22, 18], none⟩,
   ⟨(some 61), .faddr 2 (.t 3), [23], (some (60, true))⟩,
   ⟨(some 62), .load none (.t 61), [24, 23], (some (60, true))⟩,
   ⟨(some 63), .bin .eql (.t 62) (.c (.int .i64 6)), [25, 23], (some (60, true))⟩,
   ⟨(some 64), .pick (.t 60) (.t 63) (.c (.bool false)), [23, 26], none⟩,
   ⟨(some 65), .mov (.t 64), [27, 23], none⟩,
   ⟨(some 66), .faddr 4 (.t 3), [28], (some (65, true))⟩,
   ⟨(some 67), .load none (.t 66), [29, 28], (some (65, true))⟩,
   ⟨(some 68), .len 1 (.t 67), [30, 28], (some (65, true))⟩,
   ⟨(some 69), .bin .eql (.t 68) (.c (.int .i64 2)), [31, 28], (some (65, true))⟩,
   ⟨(some 70), .pick (.t 65) (.t 69) (.c (.bool false)), [28, 32], none⟩,
   ⟨(some 71), .mov (.t 70), [33, 28], none⟩,
   ⟨(some 72), .mov (.t 6), [34], (some (71, true))⟩,
   ⟨(some 73), .bin .eql (.t 72) (.c (.int .i64 0)), [35, 34], (some (71, true))⟩,
   ⟨(some 74), .pick (.t 71) (.t 73) (.c (.bool false)), [34, 36], none⟩,
   ⟨(some 75), .mov (.t 74), [37, 34], none⟩,
   ⟨(some 76), .faddr 1 (.t 5), [38], (some (75, true))⟩,
   ⟨(some 77), .load none (.t 76), [39, 38], (some (75, true))⟩,
   ⟨(some 78), .len 1 (.t 77), [40, 38], (some (75, true))⟩,
   ⟨(some 79), .bin .eql (.t 78) (.c (.int .i64 4)), [41, 38], (some (75, true))⟩,
   ⟨(some 80), .pick (.t 75) (.t 79) (.c (.bool false)), [38, 42], none⟩,
   ⟨(some 81), .mov (.t 80), [43, 38], none⟩,
   ⟨(some 82), .faddr 1 (.t 5), [44], (some (81, true))⟩,
   ⟨(some 83), .load none (.t 82), [45, 44], (some (81, true))⟩,
   ⟨(some 84), .iaddr none 5 (.t 83) (.c (.int .i64 2)), [46, 44], (some (81, true))⟩,
   ⟨(some 85), .faddr 1 (.t 84), [47, 44], (some (81, true))⟩,
   ⟨(some 86), .faddr 0 (.t 85), [48, 44], (some (81, true))⟩,
   ⟨(some 87), .load none (.t 86), [49, 44], (some (81, true))⟩,
   ⟨(some 88), .bslice false .dyn 1 4 [(.int .i64 0), (.int .i64 0), (.int .i64 0), (.int .i64 0)] [(0, 1, (.c (.int .i64 0))), (1, 1, (.c (.int .i64 2))), (2, 1, (.c (.int .i64 4))), (3, 1, (.c (.int .i64 5)))], [44], (some (81, true))⟩,
   ⟨(some 89), .call .heap (.f 11) [(.t 87), (.t 88)], [50, 51, 44, 44], (some (81, true))⟩,
   ⟨(some 90), .pick (.t 81) (.t 89) (.c (.bool false)), [44, 52], none⟩,
   ⟨(some 91), .mov (.t 90), [53, 52], none⟩,
   ⟨(some 92), .mov (.t 8), [54], (some (91, true))⟩,
   ⟨(some 93), .bin .eql (.t 92) (.c (.int .i64 0)), [55, 54], (some (91, true))⟩,
   ⟨(some 94), .pick (.t 91) (.t 93) (.c (.bool false)), [54, 56], none⟩,
   ⟨(some 95), .mov (.t 94), [57, 54], none⟩,
   ⟨(some 96), .faddr 2 (.t 7), [58], (some (95, true))⟩,
   ⟨(some 97), .load none (.t 96), [59, 58], (some (95, true))⟩,
   ⟨(some 98), .bslice false .dyn 1 3 [(.int .i64 0), (.int .i64 0), (.int .i64 0)] [(0, 1, (.c (.int .i64 0))), (1, 1, (.c (.int .i64 3))), (2, 1, (.c (.int .i64 6)))], [58], (some (95, true))⟩,
   ⟨(some 99), .call .heap (.f 11) [(.t 97), (.t 98)], [60, 61, 58, 58], (some (95, true))⟩,
   ⟨(some 100), .pick (.t 95) (.t 99) (.c (.bool false)), [58, 62], none⟩,
   ⟨(some 101), .mov (.t 100), [63, 62], none⟩,
   ⟨(some 102), .mov (.t 13), [64], (some (101, true))⟩,
   ⟨(some 103), .bin .eql (.t 102) (.c (.int .i64 0)), [65, 64], (some (101, true))⟩,
   ⟨(some 104), .pick (.t 101) (.t 103) (.c (.bool false)), [64, 66], none⟩,
   ⟨(some 105), .mov (.t 104), [67, 64], none⟩,
   ⟨(some 106), .mov (.t 9), [68], (some (105, true))⟩,
   ⟨(some 107), .len 1 (.t 106), [69, 68], (some (105, true))⟩,
   ⟨(some 108), .bin .eql (.t 107) (.c (.int .i64 3)), [70, 68], (some (105, true))⟩,
   ⟨(some 109), .pick (.t 105) (.t 108) (.c (.bool false)), [68, 71], none⟩,
   ⟨(some 110), .mov (.t 109), [72, 68], none⟩,
   ⟨(some 111), .faddr 1 (.t 10), [73], (some (110, true))⟩,
   ⟨(some 112), .load none (.t 111), [74, 73], (some (110, true))⟩,
   ⟨(some 113), .bin .eql (.t 112) (.c (.int .i64 2)), [75, 73], (some (110, true))⟩,
   ⟨(some 114), .pick (.t 110) (.t 113) (.c (.bool false)), [73, 76], none⟩,
   ⟨(some 115), .mov (.t 114), [77, 73], none⟩,
   ⟨(some 116), .mov (.t 11), [78], (some (115, true))⟩,
   ⟨(some 117), .bin .eql (.t 116) (.c (.int .i64 1)), [79, 78], (some (115, true))⟩,
   ⟨(some 118), .pick (.t 115) (.t 117) (.c (.bool false)), [78, 80], none⟩,
   ⟨(some 119), .mov (.t 118), [81, 78], none⟩,
   ⟨(some 120), .mov (.t 12), [82], (some (119, true))⟩,
   ⟨(some 121), .bin .eql (.t 120) (.c (.int .i64 1)), [83, 82], (some (119, true))⟩,
   ⟨(some 122), .pick (.t 119) (.t 121) (.c (.bool false)), [82, 84], none⟩,
   ⟨(some 0), .mov (.t 122), [85, 82, 0, 1, 2, 3, 4, 5, 6, 7, 8, 9, 10, 11, 12, 13, 14, 15, 16, 17, 18, 19, 20, 21, 22, 23, 24, 25, 26, 27, 28, 29, 30, 31, 32, 33, 34, 35, 36, 37, 38, 39, 40, 41, 42, 43, 44, 45, 46, 47, 48, 49, 50, 51, 52, 53, 54, 55, 56, 57, 58, 59, 60, 61, 62, 63, 64, 65, 66, 67, 68, 69, 70, 71, 72, 73, 74, 75, 76, 77, 78, 79, 80, 81, 82, 83, 84, 85], none⟩] [] [1, 2, 3, 4, 5, 6, 7, 8, 10, 9, 11, 12, 13, 37, 38, 39, 40, 41, 42, 43, 44, 45, 46, 47, 48, 49, 50, 51, 52, 53, 54, 55, 56, 57, 58, 59, 60, 61, 62, 63, 64, 65, 66, 67, 68, 69, 70, 71, 72, 73, 74, 75, 76, 77, 78, 79, 80, 81, 82, 83, 84, 85, 86, 87, 88, 89, 90, 91, 92, 93, 94, 95, 96, 97, 98, 99, 100, 101, 102, 103, 104, 105, 106, 107, 108, 109, 110, 111, 112, 113, 114, 115, 116, 117, 118, 119, 120, 121, 122])
 .ret)))))))⟩

-- overseer/overseerlaw59.Pick
def s8 : SFn := ⟨28, [.tmp 4, .tmp 5],
 (.seq (.region [⟨(some 4), .mov (.c (.int .i64 0)), [], none⟩,
   ⟨(some 5), .mov (.c (.int .i64 0)), [0], none⟩] [] [4, 5])
 (.seq (.region [⟨(some 9), .mov (.t 0), [], none⟩,
   ⟨(some 10), .bin .rem (.t 9) (.c (.int .u8 5)), [0], none⟩,
   ⟨(some 11), .conv .i64 (.t 10), [1], none⟩,
   ⟨(some 12), .bin .add (.c (.int .i64 1)) (.t 11), [2], none⟩,
   ⟨(some 6), .mov (.t 12), [3, 0, 1, 2, 3], none⟩] [] [0, 9, 10, 11, 12])
 (.seq (.region [⟨(some 14), .mov (.t 6), [], none⟩,
   ⟨(some 15), .call .pure (.f 16) [(.t 14)], [0], none⟩,
   ⟨(some 13), .mov (.t 15), [1], none⟩,
   ⟨(some 16), .extract 0 (.t 13), [2], none⟩,
   ⟨(some 17), .extract 1 (.t 13), [2], none⟩,
   ⟨(some 7), .mov (.t 16), [3, 1, 0, 1, 2, 3], none⟩,
   ⟨(some 8), .mov (.t 17), [4, 5, 0, 1, 2, 3, 4, 5], none⟩] [] [14, 15, 13, 16, 17])
 (.seq (.region [⟨(some 18), .mov (.t 6), [], none⟩,
   ⟨(some 19), .mov (.t 7), [], none⟩,
   ⟨(some 20), .mov (.t 1), [], none⟩,
   ⟨(some 21), .conv .i64 (.t 20), [2], none⟩,
   ⟨(some 22), .mov (.t 8), [], none⟩,
   ⟨(some 23), .mov (.t 7), [], none⟩,
   ⟨(some 24), .bin .sub (.t 22) (.t 23), [4, 5], none⟩,
   ⟨(some 25), .bin .add (.t 24) (.c (.int .i64 1)), [6], none⟩,
   ⟨(some 26), .bin .rem (.t 21) (.t 25), [3, 7], none⟩,
   ⟨(some 27), .bin .add (.t 19) (.t 26), [1, 8], none⟩,
   ⟨(some 4), .mov (.t 18), [0, 0], none⟩,
   ⟨(some 5), .mov (.t 27), [9, 10, 0, 1, 2, 3, 4, 5, 6, 7, 8, 9, 10], none⟩] [] [1, 6, 7, 8, 18, 19, 20, 21, 22, 23, 24, 25, 26, 27])
 .ret))))⟩

-- overseer/catalogue.Known
def s9 : SFn := ⟨124, [.cell 4 (some 5), .tmp 5],
 (.seq (.region [⟨(some 4), .alloc .dyn (.agg [(.int .i64 0), (.int .i64 0), (.int .i64 0), (.int .i64 0), .nilsl]), [], none⟩,
   ⟨(some 5), .mov (.c (.int .i64 0)), [], none⟩] [] [5])
 (.seq (.seq (.region [⟨(some 14), .mov (.t 0), [], none⟩,
   ⟨(some 15), .mov (.t 1), [], none⟩,
   ⟨(some 16), .call .pure (.f 28) [(.t 14), (.t 15)], [0, 1], none⟩,
   ⟨(some 6), .mov (.t 16), [2, 2, 0, 1, 2], none⟩] [] [14, 15, 16])
 (.seq (.region [⟨(some 17), .mov (.t 6), [], none⟩,
   ⟨(some 18), .bin .neq (.t 17) (.c (.int .i64 0)), [0], none⟩] [] [17])
 (.cond (.t 18)
  (.seq (.region [⟨(some 19), .build [(.int .i64 0), (.int .i64 0), (.int .i64 0), (.int .i64 0), .nilsl] [], [], none⟩,
    ⟨(some 20), .mov (.t 6), [], none⟩,
    ⟨none, .store 5 (.t 4) (.t 19), [0, 0], none⟩,
    ⟨(some 5), .mov (.t 20), [1, 2, 0, 1, 2], none⟩] [] [0, 1, 6, 18, 19, 20])
  .ret)
  .skip)))
 (.seq (.region [⟨(some 21), .mov (.t 1), [], none⟩,
   ⟨(some 7), .mov (.t 21), [0, 0], none⟩] [] [5, 1, 6, 18, 21])
 (.seq (.seq (.region [⟨(some 22), .mov (.t 0), [], none⟩] [] [0])
 (.block 0 (.seq (.region [⟨(some 24), .bin .eql (.t 22) (.c (.int .i64 1)), [], none⟩,
   ⟨(some 23), .mov (.t 24), [0], none⟩] [] [24])
 (.cond (.t 23)
  (.seq (.region [⟨(some 25), .build [.nilsl, (.int .i64 0)] [(1, 1, (.c (.int .i64 0)))], [], none⟩,
    ⟨(some 8), .alloc .dyn (.agg [.nilsl, (.int .i64 0)]), [], none⟩,
    ⟨none, .store 2 (.t 8) (.t 25), [1, 0, 0, 1], none⟩] [] [22, 23, 25])
  (.seq (.seq (.region [⟨(some 26), .mov (.t 7), [], none⟩,
    ⟨(some 27), .mov (.c (.int .i64 0)), [], none⟩] [] [])
  (.block 1 (.loop (.seq (.region [⟨(some 28), .bin .lss (.t 27) (.t 26), [], none⟩] [] [])
  (.seq (.cond (.t 28)
   .skip
   (.exit 1))
  (.seq (.block 2 (.region [⟨(some 29), .faddr 0 (.t 8), [], none⟩,
    ⟨(some 30), .load none (.t 29), [0], none⟩,
    ⟨(some 31), .bslice false .dyn 1 2 [(.int .i64 0), (.int .i64 0)] [(0, 1, (.c (.int .i64 0))), (1, 1, (.c (.int .i64 1)))], [], none⟩,
    ⟨(some 32), .append .dyn 1 8 (.t 30) (.t 31), [1, 2], none⟩,
    ⟨(some 33), .faddr 0 (.t 8), [0, 1, 2, 3], none⟩,
    ⟨none, .store 1 (.t 33) (.t 32), [4, 3, 3, 0, 1, 2, 3], none⟩] [] [28, 29, 30, 31, 32, 33]))
  (.region [⟨(some 34), .bin .add (.t 27) (.c (.int .i64 1)), [], none⟩,
    ⟨(some 27), .mov (.t 34), [0], none⟩] [] [34])))))))
  (.seq (.region [⟨(some 35), .mov (.t 7), [], none⟩,
    ⟨(some 36), .bin .add (.t 35) (.c (.int .i64 1)), [0], none⟩,
    ⟨(some 37), .bin .mul (.c (.int .i64 4)) (.t 36), [1], none⟩,
    ⟨(some 38), .mov (.t 7), [], none⟩,
    ⟨(some 39), .bin .mul (.c (.int .i64 4)) (.t 38), [3], none⟩,
    ⟨(some 40), .bin .add (.t 39) (.c (.int .i64 2)), [4], none⟩,
    ⟨(some 41), .build [.nilsl, (.int .i64 0)] [(1, 1, (.c (.int .i64 2)))], [], none⟩,
    ⟨(some 42), .load (some 2) (.t 8), [], none⟩,
    ⟨(some 43), .bslice false .dyn 2 2 [.nilsl, (.int .i64 0), .nilsl, (.int .i64 0)] [(0, 2, (.t 41)), (2, 2, (.t 42))], [6, 7], none⟩,
    ⟨(some 44), .call .heap (.f 29) [(.t 37), (.t 40), (.c (.int .i64 2)), (.t 43)], [2, 5, 8], none⟩,
    ⟨none, .store 5 (.t 4) (.t 44), [9, 9, 0, 1, 2, 3, 4, 5, 6, 7, 8, 9], none⟩,
    ⟨(some 5), .mov (.c (.int .i64 0)), [10, 0, 1, 2, 3, 4, 5, 6, 7, 8, 9, 10], none⟩] [] [7, 8, 26, 27, 35, 36, 37, 38, 39, 40, 41, 42, 43, 44])
  .ret)))
  (.seq (.region [⟨(some 46), .bin .eql (.t 22) (.c (.int .i64 2)), [], none⟩,
    ⟨(some 45), .mov (.t 46), [0], none⟩] [] [23, 46])
  (.cond (.t 45)
   (.seq (.region [⟨(some 47), .mov (.t 7), [], none⟩,
     ⟨(some 48), .bin .mul (.c (.int .i64 2)) (.t 47), [0], none⟩,
     ⟨(some 49), .bin .sub (.t 48) (.c (.int .i64 1)), [1], none⟩,
     ⟨(some 50), .call .pure (.f 30) [(.c (.int .i64 2)), (.t 49)], [2], none⟩,
     ⟨(some 51), .mov (.t 7), [], none⟩,
     ⟨(some 52), .bin .sub (.t 51) (.c (.int .i64 1)), [4], none⟩,
     ⟨(some 53), .call .pure (.f 30) [(.c (.int .i64 3)), (.t 52)], [5, 3], none⟩,
     ⟨(some 54), .bin .mul (.c (.int .i64 2)) (.t 53), [6], none⟩,
     ⟨(some 9), .mov (.t 50), [3, 6, 0, 1, 2, 3], none⟩,
     ⟨(some 10), .mov (.t 54), [7, 8, 0, 1, 2, 3, 4, 5, 6, 7, 8], none⟩] [] [22, 45, 47, 48, 49, 50, 51, 52, 53, 54])
   (.seq (.region [⟨(some 55), .mov (.t 9), [], none⟩,
     ⟨(some 56), .mov (.t 10), [], none⟩,
     ⟨(some 57), .mov (.t 9), [], none⟩,
     ⟨(some 58), .mov (.t 10), [], none⟩,
     ⟨(some 59), .bin .sub (.t 57) (.t 58), [2, 3], none⟩,
     ⟨(some 60), .mov (.t 7), [], none⟩,
     ⟨(some 61), .bin .mul (.c (.int .i64 2)) (.t 60), [5], none⟩,
     ⟨(some 62), .bin .sub (.t 61) (.c (.int .i64 2)), [6], none⟩,
     ⟨(some 63), .build [.nilsl, (.int .i64 0)] [(1, 1, (.t 62))], [7], none⟩,
     ⟨(some 64), .bslice false .dyn 1 2 [(.int .i64 0), (.int .i64 0)] [(0, 1, (.c (.int .i64 0))), (1, 1, (.c (.int .i64 1)))], [], none⟩,
     ⟨(some 65), .build [.nilsl, (.int .i64 0)] [(0, 1, (.t 64)), (1, 1, (.c (.int .i64 0)))], [9], none⟩,
     ⟨(some 66), .bslice false .dyn 2 2 [.nilsl, (.int .i64 0), .nilsl, (.int .i64 0)] [(0, 2, (.t 63)), (2, 2, (.t 65))], [8, 10], none⟩,
     ⟨(some 67), .call .heap (.f 29) [(.t 55), (.t 56), (.t 59), (.t 66)], [0, 1, 4, 11], none⟩,
     ⟨none, .store 5 (.t 4) (.t 67), [12, 12, 0, 1, 2, 3, 4, 5, 6, 7, 8, 9, 10, 11, 12], none⟩,
     ⟨(some 5), .mov (.c (.int .i64 0)), [13, 0, 1, 2, 3, 4, 5, 6, 7, 8, 9, 10, 11, 12, 13], none⟩] [] [7, 9, 10, 55, 56, 57, 58, 59, 60, 61, 62, 63, 64, 65, 66, 67])
   .ret))
   (.seq (.region [⟨(some 69), .bin .eql (.t 22) (.c (.int .i64 3)), [], none⟩,
     ⟨(some 68), .mov (.t 69), [0], none⟩] [] [45, 69])
   (.cond (.t 68)
    (.seq (.region [⟨(some 70), .bslice false .dyn 1 3 [(.int .i64 0), (.int .i64 0), (.int .i64 0)] [(0, 1, (.c (.int .i64 6))), (1, 1, (.c (.int .i64 14))), (2, 1, (.c (.int .i64 34)))], [], none⟩,
      ⟨(some 71), .mov (.t 7), [], none⟩,
      ⟨(some 72), .bin .sub (.t 71) (.c (.int .i64 2)), [1], none⟩,
      ⟨(some 73), .iaddr none 1 (.t 70) (.t 72), [0, 2], none⟩,
      ⟨(some 74), .load none (.t 73), [3], none⟩,
      ⟨(some 11), .mov (.t 74), [4, 0, 1, 2, 3, 4], none⟩] [] [22, 68, 70, 71, 72, 73, 74])
    (.seq (.region [⟨(some 75), .mov (.t 7), [], none⟩,
      ⟨(some 76), .bin .sub (.t 75) (.c (.int .i64 1)), [0], none⟩,
      ⟨(some 77), .bin .mul (.c (.int .i64 3)) (.t 76), [1], none⟩,
      ⟨(some 78), .build [.nilsl, (.int .i64 0)] [(1, 1, (.t 77))], [2], none⟩,
      ⟨(some 12), .alloc .dyn (.agg [.nilsl, (.int .i64 0)]), [], none⟩,
      ⟨none, .store 2 (.t 12) (.t 78), [4, 3, 0, 1, 2, 3, 4], none⟩] [] [75, 76, 77, 78])
    (.seq (.seq (.region [⟨(some 79), .mov (.t 7), [], none⟩,
      ⟨(some 80), .bin .sub (.t 79) (.c (.int .i64 1)), [0], none⟩,
      ⟨(some 81), .mov (.c (.int .i64 0)), [], none⟩] [] [7, 79])
    (.block 3 (.loop (.seq (.region [⟨(some 82), .bin .lss (.t 81) (.t 80), [], none⟩] [] [])
    (.seq (.cond (.t 82)
     .skip
     (.exit 3))
    (.seq (.block 4 (.seq (.region [⟨(some 83), .mov (.t 81), [], none⟩,
      ⟨(some 13), .mov (.t 83), [0, 0], none⟩] [] [82, 83])
    (.region [⟨(some 84), .faddr 0 (.t 12), [], none⟩,
      ⟨(some 85), .load none (.t 84), [0], none⟩,
      ⟨(some 86), .mov (.t 13), [], none⟩,
      ⟨(some 87), .bin .mul (.c (.int .i64 3)) (.t 86), [2], none⟩,
      ⟨(some 88), .bslice false .dyn 1 1 [(.int .i64 0)] [(0, 1, (.t 87))], [3], none⟩,
      ⟨(some 89), .append .dyn 1 8 (.t 85) (.t 88), [1, 4], none⟩,
      ⟨(some 90), .faddr 0 (.t 12), [0, 1, 2, 3, 4, 5], none⟩,
      ⟨none, .store 1 (.t 90) (.t 89), [6, 5, 5, 0, 1, 2, 3, 4, 5], none⟩] [] [13, 84, 85, 86, 87, 88, 89, 90])))
    (.region [⟨(some 91), .bin .add (.t 81) (.c (.int .i64 1)), [], none⟩,
      ⟨(some 81), .mov (.t 91), [0], none⟩] [] [91])))))))
    (.seq (.region [⟨(some 92), .mov (.t 11), [], none⟩,
      ⟨(some 93), .mov (.t 11), [], none⟩,
      ⟨(some 94), .bin .sub (.t 93) (.c (.int .i64 1)), [1], none⟩,
      ⟨(some 95), .load (some 2) (.t 12), [], none⟩,
      ⟨(some 96), .bslice false .dyn 2 1 [.nilsl, (.int .i64 0)] [(0, 2, (.t 95))], [3], none⟩,
      ⟨(some 97), .call .heap (.f 29) [(.t 92), (.t 94), (.c (.int .i64 0)), (.t 96)], [0, 2, 4], none⟩,
      ⟨none, .store 5 (.t 4) (.t 97), [5, 5, 0, 1, 2, 3, 4, 5], none⟩,
      ⟨(some 5), .mov (.c (.int .i64 0)), [6, 0, 1, 2, 3, 4, 5, 6], none⟩] [] [11, 12, 80, 81, 92, 93, 94, 95, 96, 97])
    .ret))))
    (.seq (.region [⟨(some 99), .bin .eql (.t 22) (.c (.int .i64 4)), [], none⟩,
      ⟨(some 98), .mov (.t 99), [0], none⟩] [] [22, 68, 99])
    (.cond (.t 98)
     (.seq (.region [⟨(some 100), .mov (.t 7), [], none⟩,
       ⟨(some 101), .call .pure (.f 30) [(.c (.int .i64 2)), (.t 100)], [0], none⟩,
       ⟨(some 102), .mov (.t 7), [], none⟩,
       ⟨(some 103), .bin .add (.t 102) (.c (.int .i64 1)), [2], none⟩,
       ⟨(some 104), .mov (.t 7), [], none⟩,
       ⟨(some 105), .call .pure (.f 30) [(.c (.int .i64 2)), (.t 104)], [4, 1], none⟩,
       ⟨(some 106), .mov (.t 7), [], none⟩,
       ⟨(some 107), .bin .sub (.t 105) (.t 106), [5, 6], none⟩,
       ⟨(some 108), .bin .sub (.t 107) (.c (.int .i64 1)), [7], none⟩,
       ⟨(some 109), .bslice false .dyn 1 1 [(.int .i64 0)] [(0, 1, (.c (.int .i64 0)))], [], none⟩,
       ⟨(some 110), .build [.nilsl, (.int .i64 0)] [(0, 1, (.t 109)), (1, 1, (.c (.int .i64 2)))], [9], none⟩,
       ⟨(some 111), .bslice false .dyn 2 1 [.nilsl, (.int .i64 0)] [(0, 2, (.t 110))], [10], none⟩,
       ⟨(some 112), .call .heap (.f 29) [(.t 101), (.t 103), (.t 108), (.t 111)], [1, 3, 8, 11, 5], none⟩,
       ⟨none, .store 5 (.t 4) (.t 112), [12, 12, 0, 1, 2, 3, 4, 5, 6, 7, 8, 9, 10, 11, 12], none⟩,
       ⟨(some 5), .mov (.c (.int .i64 0)), [13, 0, 1, 2, 3, 4, 5, 6, 7, 8, 9, 10, 11, 12, 13], none⟩] [] [7, 98, 100, 101, 102, 103, 104, 105, 106, 107, 108, 109, 110, 111, 112])
     .ret)
     .skip))))))))))
 (.seq (.region [⟨(some 113), .mov (.t 7), [], none⟩,
   ⟨(some 114), .mov (.t 7), [], none⟩,
   ⟨(some 115), .call .pure (.f 30) [(.c (.int .i64 2)), (.t 114)], [1], none⟩,
   ⟨(some 116), .bin .mul (.t 113) (.t 115), [0, 2], none⟩,
   ⟨(some 117), .mov (.t 7), [], none⟩,
   ⟨(some 118), .mov (.t 7), [], none⟩,
   ⟨(some 119), .call .pure (.f 30) [(.c (.int .i64 2)), (.t 118)], [5, 2], none⟩,
   ⟨(some 120), .bin .mul (.t 117) (.t 119), [4, 6], none⟩,
   ⟨(some 121), .build [.nilsl, (.int .i64 0)] [(1, 1, (.c (.int .i64 2)))], [], none⟩,
   ⟨(some 122), .bslice false .dyn 2 1 [.nilsl, (.int .i64 0)] [(0, 2, (.t 121))], [8], none⟩,
   ⟨(some 123), .call .heap (.f 29) [(.t 116), (.t 120), (.c (.int .i64 0)), (.t 122)], [3, 7, 9, 6], none⟩,
   ⟨none, .store 5 (.t 4) (.t 123), [10, 10, 0, 1, 2, 3, 4, 5, 6, 7, 8, 9, 10], none⟩,
   ⟨(some 5), .mov (.c (.int .i64 0)), [11, 0, 1, 2, 3, 4, 5, 6, 7, 8, 9, 10, 11], none⟩] [] [7, 98, 113, 114, 115, 116, 117, 118, 119, 120, 121, 122, 123])
 .ret)))))⟩

-- overseer/overseerlaw59.facts
def s10 : SFn := ⟨112, [.cell 4 (some 5)],
 (.seq (.region [⟨(some 4), .alloc .dyn (.agg [(.int .i64 0), (.int .i64 0), (.int .i64 0), (.int .i64 0), .nilsl]), [], none⟩] [] [])
 (.seq (.region [⟨(some 5), .alloc .dyn (.agg [(.int .i64 0), (.int .i64 0), (.int .i64 0), (.int .i64 0), .nilsl]), [], none⟩] [] [])
 (.seq (.seq (.region [⟨(some 11), .mov (.t 0), [], none⟩] [] [0])
 (.block 0 (.seq (.region [⟨(some 24), .bin .eql (.t 11) (.c (.int .i64 1)), [], none⟩,
   ⟨(some 23), .mov (.t 24), [0], none⟩] [] [24])
 (.cond (.t 23)
  (.seq (.region [⟨(some 6), .mov (.c .nilsl), [], none⟩] [] [11, 23])
  (.seq (.seq (.region [⟨(some 7), .mov (.c (.int .i64 0)), [], none⟩] [] [])
  (.block 1 (.loop (.seq (.seq (.region [⟨(some 25), .mov (.t 7), [], none⟩,
    ⟨(some 26), .mov (.t 1), [], none⟩,
    ⟨(some 27), .bin .lss (.t 25) (.t 26), [0, 1], none⟩] [] [25, 26])
  (.cond (.t 27)
   .skip
   (.exit 1)))
  (.seq (.block 2 (.region [⟨(some 30), .mov (.t 6), [], none⟩,
    ⟨(some 31), .bslice false .dyn 1 2 [(.int .i64 0), (.int .i64 0)] [(0, 1, (.c (.int .i64 0))), (1, 1, (.c (.int .i64 1)))], [], none⟩,
    ⟨(some 32), .append .dyn 1 8 (.t 30) (.t 31), [0, 1], none⟩,
    ⟨(some 6), .mov (.t 32), [2, 2, 0, 1, 2], none⟩] [] [27, 30, 31, 32]))
  (.region [⟨(some 28), .mov (.t 7), [], none⟩,
    ⟨(some 29), .bin .add (.t 28) (.c (.int .i64 1)), [0], none⟩,
    ⟨(some 7), .mov (.t 29), [1, 0, 1], none⟩] [] [28, 29]))))))
  (.region [⟨(some 33), .mov (.t 1), [], none⟩,
    ⟨(some 34), .bin .add (.t 33) (.c (.int .i64 1)), [0], none⟩,
    ⟨(some 35), .bin .mul (.c (.int .i64 4)) (.t 34), [1], none⟩,
    ⟨(some 36), .mov (.t 1), [], none⟩,
    ⟨(some 37), .bin .mul (.c (.int .i64 4)) (.t 36), [3], none⟩,
    ⟨(some 38), .bin .add (.t 37) (.c (.int .i64 2)), [4], none⟩,
    ⟨(some 39), .build [.nilsl, (.int .i64 0)] [(1, 1, (.c (.int .i64 2)))], [], none⟩,
    ⟨(some 40), .mov (.t 6), [], none⟩,
    ⟨(some 41), .build [.nilsl, (.int .i64 0)] [(0, 1, (.t 40)), (1, 1, (.c (.int .i64 0)))], [7], none⟩,
    ⟨(some 42), .bslice false .dyn 2 2 [.nilsl, (.int .i64 0), .nilsl, (.int .i64 0)] [(0, 2, (.t 39)), (2, 2, (.t 41))], [6, 8], none⟩,
    ⟨(some 43), .build [(.int .i64 0), (.int .i64 0), (.int .i64 0), (.int .i64 0), .nilsl] [(0, 1, (.t 35)), (2, 1, (.t 38)), (4, 1, (.t 42))], [2, 5, 9], none⟩,
    ⟨none, .store 5 (.t 5) (.t 43), [10, 0, 1, 2, 3, 4, 5, 6, 7, 8, 9, 10], none⟩] [] [1, 6, 7, 33, 34, 35, 36, 37, 38, 39, 40, 41, 42, 43])))
  (.seq (.region [⟨(some 45), .bin .eql (.t 11) (.c (.int .i64 2)), [], none⟩,
    ⟨(some 44), .mov (.t 45), [0], none⟩] [] [23, 45])
  (.cond (.t 44)
   (.region [⟨(some 46), .mov (.t 1), [], none⟩,
     ⟨(some 47), .bin .mul (.c (.int .i64 2)) (.t 46), [0], none⟩,
     ⟨(some 48), .bin .sub (.t 47) (.c (.int .i64 1)), [1], none⟩,
     ⟨(some 49), .call .pure (.f 31) [(.c (.int .i64 2)), (.t 48)], [2], none⟩,
     ⟨(some 50), .mov (.t 1), [], none⟩,
     ⟨(some 51), .bin .sub (.t 50) (.c (.int .i64 1)), [4], none⟩,
     ⟨(some 52), .call .pure (.f 31) [(.c (.int .i64 3)), (.t 51)], [5, 3], none⟩,
     ⟨(some 53), .bin .mul (.c (.int .i64 2)) (.t 52), [6], none⟩,
     ⟨(some 54), .mov (.t 1), [], none⟩,
     ⟨(some 55), .bin .mul (.c (.int .i64 2)) (.t 54), [8], none⟩,
     ⟨(some 56), .bin .sub (.t 55) (.c (.int .i64 2)), [9], none⟩,
     ⟨(some 57), .build [.nilsl, (.int .i64 0)] [(1, 1, (.t 56))], [10], none⟩,
     ⟨(some 58), .bslice false .dyn 1 2 [(.int .i64 0), (.int .i64 0)] [(0, 1, (.c (.int .i64 0))), (1, 1, (.c (.int .i64 1)))], [], none⟩,
     ⟨(some 59), .build [.nilsl, (.int .i64 0)] [(0, 1, (.t 58)), (1, 1, (.c (.int .i64 0)))], [12], none⟩,
     ⟨(some 60), .bslice false .dyn 2 2 [.nilsl, (.int .i64 0), .nilsl, (.int .i64 0)] [(0, 2, (.t 57)), (2, 2, (.t 59))], [11, 13], none⟩,
     ⟨(some 61), .build [(.int .i64 0), (.int .i64 0), (.int .i64 0), (.int .i64 0), .nilsl] [(0, 1, (.t 49)), (2, 1, (.t 53)), (4, 1, (.t 60))], [3, 7, 14], none⟩,
     ⟨none, .store 5 (.t 5) (.t 61), [15, 6, 0, 1, 2, 3, 4, 5, 6, 7, 8, 9, 10, 11, 12, 13, 14, 15], none⟩] [] [1, 11, 44, 46, 47, 48, 49, 50, 51, 52, 53, 54, 55, 56, 57, 58, 59, 60, 61])
   (.seq (.region [⟨(some 63), .bin .eql (.t 11) (.c (.int .i64 3)), [], none⟩,
     ⟨(some 62), .mov (.t 63), [0], none⟩] [] [44, 63])
   (.cond (.t 62)
    (.seq (.region [⟨(some 8), .mov (.c .nilsl), [], none⟩] [] [5, 11, 62])
    (.seq (.seq (.region [⟨(some 9), .mov (.c (.int .i64 0)), [], none⟩] [] [])
    (.block 3 (.loop (.seq (.seq (.region [⟨(some 64), .mov (.t 9), [], none⟩,
      ⟨(some 65), .mov (.t 1), [], none⟩,
      ⟨(some 66), .bin .sub (.t 65) (.c (.int .i64 1)), [1], none⟩,
      ⟨(some 67), .bin .lss (.t 64) (.t 66), [0, 2], none⟩] [] [64, 65, 66])
    (.cond (.t 67)
     .skip
     (.exit 3)))
    (.seq (.block 4 (.region [⟨(some 70), .mov (.t 8), [], none⟩,
      ⟨(some 71), .mov (.t 9), [], none⟩,
      ⟨(some 72), .bin .mul (.c (.int .i64 3)) (.t 71), [1], none⟩,
      ⟨(some 73), .bslice false .dyn 1 1 [(.int .i64 0)] [(0, 1, (.t 72))], [2], none⟩,
      ⟨(some 74), .append .dyn 1 8 (.t 70) (.t 73), [0, 3], none⟩,
      ⟨(some 8), .mov (.t 74), [4, 4, 0, 1, 2, 3, 4], none⟩] [] [67, 70, 71, 72, 73, 74]))
    (.region [⟨(some 68), .mov (.t 9), [], none⟩,
      ⟨(some 69), .bin .add (.t 68) (.c (.int .i64 1)), [0], none⟩,
      ⟨(some 9), .mov (.t 69), [1, 0, 1], none⟩] [] [68, 69]))))))
    (.seq (.region [⟨(some 75), .bslice false .dyn 1 3 [(.int .i64 0), (.int .i64 0), (.int .i64 0)] [(0, 1, (.c (.int .i64 6))), (1, 1, (.c (.int .i64 14))), (2, 1, (.c (.int .i64 34)))], [], none⟩,
      ⟨(some 76), .mov (.t 1), [], none⟩,
      ⟨(some 77), .bin .sub (.t 76) (.c (.int .i64 2)), [1], none⟩,
      ⟨(some 78), .iaddr none 1 (.t 75) (.t 77), [0, 2], none⟩,
      ⟨(some 79), .load none (.t 78), [3], none⟩,
      ⟨(some 10), .mov (.t 79), [4, 0, 1, 2, 3, 4], none⟩] [] [9, 75, 76, 77, 78, 79])
    (.seq (.region [⟨(some 80), .mov (.t 10), [], none⟩,
      ⟨(some 81), .mov (.t 10), [], none⟩,
      ⟨(some 82), .bin .sub (.t 81) (.c (.int .i64 1)), [1], none⟩,
      ⟨(some 83), .mov (.t 10), [], none⟩,
      ⟨(some 84), .bin .sub (.t 83) (.c (.int .i64 1)), [3], none⟩,
      ⟨(some 85), .mov (.t 8), [], none⟩,
      ⟨(some 86), .mov (.t 1), [], none⟩,
      ⟨(some 87), .bin .sub (.t 86) (.c (.int .i64 1)), [6], none⟩,
      ⟨(some 88), .bin .mul (.c (.int .i64 3)) (.t 87), [7], none⟩,
      ⟨(some 89), .build [.nilsl, (.int .i64 0)] [(0, 1, (.t 85)), (1, 1, (.t 88))], [5, 8], none⟩,
      ⟨(some 90), .bslice false .dyn 2 1 [.nilsl, (.int .i64 0)] [(0, 2, (.t 89))], [9], none⟩,
      ⟨(some 91), .build [(.int .i64 0), (.int .i64 0), (.int .i64 0), (.int .i64 0), .nilsl] [(0, 1, (.t 80)), (2, 1, (.t 82)), (3, 1, (.t 84)), (4, 1, (.t 90))], [0, 2, 4, 10], none⟩,
      ⟨none, .store 5 (.t 4) (.t 91), [11, 0, 1, 2, 3, 4, 5, 6, 7, 8, 9, 10, 11], none⟩] [] [1, 8, 10, 80, 81, 82, 83, 84, 85, 86, 87, 88, 89, 90, 91])
    .ret))))
    (.seq (.region [⟨(some 93), .bin .eql (.t 11) (.c (.int .i64 4)), [], none⟩,
      ⟨(some 92), .mov (.t 93), [0], none⟩] [] [11, 62, 93])
    (.cond (.t 92)
     (.region [⟨(some 94), .mov (.t 1), [], none⟩,
       ⟨(some 95), .call .pure (.f 31) [(.c (.int .i64 2)), (.t 94)], [0], none⟩,
       ⟨(some 96), .mov (.t 1), [], none⟩,
       ⟨(some 97), .bin .add (.t 96) (.c (.int .i64 1)), [2], none⟩,
       ⟨(some 98), .bslice false .dyn 1 1 [(.int .i64 0)] [(0, 1, (.c (.int .i64 0)))], [], none⟩,
       ⟨(some 99), .build [.nilsl, (.int .i64 0)] [(0, 1, (.t 98)), (1, 1, (.c (.int .i64 2)))], [4], none⟩,
       ⟨(some 100), .bslice false .dyn 2 1 [.nilsl, (.int .i64 0)] [(0, 2, (.t 99))], [5], none⟩,
       ⟨(some 101), .build [(.int .i64 0), (.int .i64 0), (.int .i64 0), (.int .i64 0), .nilsl] [(0, 1, (.t 95)), (2, 1, (.t 97)), (4, 1, (.t 100))], [1, 3, 6], none⟩,
       ⟨none, .store 5 (.t 5) (.t 101), [7, 1, 0, 1, 2, 3, 4, 5, 6, 7], none⟩] [] [1, 92, 94, 95, 96, 97, 98, 99, 100, 101])
     (.region [⟨(some 12), .mov (.t 1), [], none⟩,
       ⟨(some 13), .mov (.t 1), [], none⟩,
       ⟨(some 14), .call .pure (.f 31) [(.c (.int .i64 2)), (.t 13)], [1], none⟩,
       ⟨(some 15), .bin .mul (.t 12) (.t 14), [0, 2], none⟩,
       ⟨(some 16), .mov (.t 1), [], none⟩,
       ⟨(some 17), .mov (.t 1), [], none⟩,
       ⟨(some 18), .call .pure (.f 31) [(.c (.int .i64 2)), (.t 17)], [5, 2], none⟩,
       ⟨(some 19), .bin .mul (.t 16) (.t 18), [4, 6], none⟩,
       ⟨(some 20), .build [.nilsl, (.int .i64 0)] [(1, 1, (.c (.int .i64 2)))], [], none⟩,
       ⟨(some 21), .bslice false .dyn 2 1 [.nilsl, (.int .i64 0)] [(0, 2, (.t 20))], [8], none⟩,
       ⟨(some 22), .build [(.int .i64 0), (.int .i64 0), (.int .i64 0), (.int .i64 0), .nilsl] [(0, 1, (.t 15)), (2, 1, (.t 19)), (4, 1, (.t 21))], [3, 7, 9], none⟩,
       ⟨none, .store 5 (.t 5) (.t 22), [10, 6, 0, 1, 2, 3, 4, 5, 6, 7, 8, 9, 10], none⟩] [] [1, 92, 12, 13, 14, 15, 16, 17, 18, 19, 20, 21, 22])))))))))))
 (.seq (.region [⟨(some 102), .faddr 0 (.t 5), [], none⟩,
   ⟨(some 103), .load none (.t 102), [0], none⟩,
   ⟨(some 104), .faddr 2 (.t 5), [], none⟩,
   ⟨(some 105), .load none (.t 104), [2], none⟩,
   ⟨(some 106), .bin .sub (.t 103) (.t 105), [1, 3], none⟩,
   ⟨(some 107), .faddr 2 (.t 5), [], none⟩,
   ⟨(some 108), .load none (.t 107), [5], none⟩,
   ⟨(some 109), .faddr 1 (.t 5), [0, 1, 2, 3, 4, 5, 6], none⟩,
   ⟨none, .store 1 (.t 109) (.t 106), [7, 4, 0, 1, 2, 3, 4, 5, 6], none⟩,
   ⟨(some 110), .faddr 3 (.t 5), [0, 1, 2, 3, 4, 5, 6, 7, 8], none⟩,
   ⟨none, .store 1 (.t 110) (.t 108), [9, 6, 8, 0, 1, 2, 3, 4, 5, 6, 7, 8], none⟩] [] [102, 103, 104, 105, 106, 107, 108, 109, 110])
 (.seq (.region [⟨(some 111), .load (some 5) (.t 5), [], none⟩,
   ⟨none, .store 5 (.t 4) (.t 111), [0, 0], none⟩] [] [5, 111])
 .ret)))))⟩

-- overseer/overseerref03.SameInts
def s11 : SFn := ⟨26, [.tmp 4],
 (.seq (.region [⟨(some 4), .mov (.c (.bool false)), [], none⟩] [] [4])
 (.seq (.seq (.region [⟨(some 6), .mov (.t 0), [], none⟩,
   ⟨(some 7), .len 1 (.t 6), [0], none⟩,
   ⟨(some 8), .mov (.t 1), [], none⟩,
   ⟨(some 9), .len 1 (.t 8), [2], none⟩,
   ⟨(some 10), .bin .neq (.t 7) (.t 9), [1, 3], none⟩] [] [6, 7, 8, 9])
 (.cond (.t 10)
  (.seq (.region [⟨(some 4), .mov (.c (.bool false)), [], none⟩] [] [0, 1, 10])
  .ret)
  .skip))
 (.seq (.seq (.region [⟨(some 5), .mov (.c (.int .i64 0)), [], none⟩] [] [4, 10])
 (.block 0 (.loop (.seq (.seq (.region [⟨(some 11), .mov (.t 5), [], none⟩,
   ⟨(some 12), .mov (.t 0), [], none⟩,
   ⟨(some 13), .len 1 (.t 12), [1], none⟩,
   ⟨(some 14), .bin .lss (.t 11) (.t 13), [0, 2], none⟩] [] [11, 12, 13])
 (.cond (.t 14)
  .skip
  (.exit 0)))
 (.seq (.block 1 (.seq (.region [⟨(some 17), .mov (.t 0), [], none⟩,
   ⟨(some 18), .mov (.t 5), [], none⟩,
   ⟨(some 19), .iaddr none 1 (.t 17) (.t 18), [0, 1], none⟩,
   ⟨(some 20), .load none (.t 19), [2], none⟩,
   ⟨(some 21), .mov (.t 1), [], none⟩,
   ⟨(some 22), .mov (.t 5), [], none⟩,
   ⟨(some 23), .iaddr none 1 (.t 21) (.t 22), [4, 5], none⟩,
   ⟨(some 24), .load none (.t 23), [6], none⟩,
   ⟨(some 25), .bin .neq (.t 20) (.t 24), [3, 7], none⟩] [] [14, 17, 18, 19, 20, 21, 22, 23, 24])
 (.cond (.t 25)
  (.seq (.region [⟨(some 4), .mov (.c (.bool false)), [], none⟩] [] [0, 1, 5, 25])
  .ret)
  .skip)))
 (.region [⟨(some 15), .mov (.t 5), [], none⟩,
   ⟨(some 16), .bin .add (.t 15) (.c (.int .i64 1)), [0], none⟩,
   ⟨(some 5), .mov (.t 16), [1, 0, 1], none⟩] [] [4, 25, 15, 16]))))))
 (.seq (.region [⟨(some 4), .mov (.c (.bool true)), [], none⟩] [] [0, 1, 5])
 .ret))))⟩

-- overseer/catalogue.Name
def s12 : SFn := ⟨15, [.tmp 2, .tmp 3],
 (.seq (.region [⟨(some 2), .mov (.c (.str [])), [], none⟩,
   ⟨(some 3), .mov (.c (.int .i64 0)), [0], none⟩] [] [2, 3])
 (.seq (.seq (.region [⟨(some 4), .mov (.t 0), [], none⟩,
   ⟨(some 5), .bin .lss (.t 4) (.c (.int .i64 1)), [0], none⟩,
   ⟨(some 6), .mov (.t 5), [1], none⟩,
   ⟨(some 7), .mov (.t 0), [2], (some (6, false))⟩,
   ⟨(some 8), .bin .gtr (.t 7) (.c (.int .i64 5)), [3, 2], (some (6, false))⟩,
   ⟨(some 9), .pick (.t 6) (.c (.bool true)) (.t 8), [2, 4], none⟩] [] [4, 5, 6, 7, 8])
 (.cond (.t 9)
  (.seq (.region [⟨(some 2), .mov (.c (.str [])), [], none⟩,
    ⟨(some 3), .mov (.c (.int .i64 11)), [0, 0], none⟩] [] [0, 9])
  .ret)
  .skip))
 (.seq (.region [⟨(some 10), .bslice false .dyn 1 5 [(.str []), (.str []), (.str []), (.str []), (.str [])] [(0, 1, (.c (.str [102, 97, 99, 116, 111, 114, 121]))), (1, 1, (.c (.str [108, 105, 110, 101]))), (2, 1, (.c (.str [100, 105, 110, 105, 110, 103]))), (3, 1, (.c (.str [122, 111, 110, 101]))), (4, 1, (.c (.str [97, 108, 116, 101, 114, 110, 97, 116, 101])))], [], none⟩,
   ⟨(some 11), .mov (.t 0), [], none⟩,
   ⟨(some 12), .bin .sub (.t 11) (.c (.int .i64 1)), [1], none⟩,
   ⟨(some 13), .iaddr none 1 (.t 10) (.t 12), [0, 2], none⟩,
   ⟨(some 14), .load none (.t 13), [3], none⟩,
   ⟨(some 2), .mov (.t 14), [4, 0, 1, 2, 3, 4], none⟩,
   ⟨(some 3), .mov (.c (.int .i64 0)), [5, 0, 1, 2, 3, 4, 5], none⟩] [] [0, 9, 10, 11, 12, 13, 14])
 .ret)))⟩

-- overseer/catalogue.Sizes
def s13 : SFn := ⟨15, [.tmp 2, .tmp 3, .tmp 4],
 (.seq (.region [⟨(some 2), .mov (.c (.int .i64 0)), [], none⟩,
   ⟨(some 3), .mov (.c (.int .i64 0)), [0], none⟩,
   ⟨(some 4), .mov (.c (.int .i64 0)), [1], none⟩] [] [2, 3, 4])
 (.seq (.seq (.region [⟨(some 5), .mov (.t 0), [], none⟩] [] [0])
 (.block 0 (.seq (.region [⟨(some 7), .bin .eql (.t 5) (.c (.int .i64 1)), [], none⟩,
   ⟨(some 6), .mov (.t 7), [0], none⟩] [] [7])
 (.cond (.t 6)
  (.seq (.region [⟨(some 2), .mov (.c (.int .i64 1)), [], none⟩,
    ⟨(some 3), .mov (.c (.int .i64 8)), [0, 0], none⟩,
    ⟨(some 4), .mov (.c (.int .i64 0)), [1, 0, 1], none⟩] [] [5, 6])
  .ret)
  (.seq (.seq (.region [⟨(some 9), .bin .eql (.t 5) (.c (.int .i64 2)), [], none⟩,
    ⟨(some 8), .mov (.t 9), [0], none⟩] [] [6, 9])
  (.cond (.t 8)
   .skip
   (.region [⟨(some 10), .bin .eql (.t 5) (.c (.int .i64 5)), [], none⟩,
     ⟨(some 8), .mov (.t 10), [0], none⟩] [] [10])))
  (.cond (.t 8)
   (.seq (.region [⟨(some 2), .mov (.c (.int .i64 2)), [], none⟩,
     ⟨(some 3), .mov (.c (.int .i64 6)), [0, 0], none⟩,
     ⟨(some 4), .mov (.c (.int .i64 0)), [1, 0, 1], none⟩] [] [5, 8])
   .ret)
   (.seq (.region [⟨(some 12), .bin .eql (.t 5) (.c (.int .i64 3)), [], none⟩,
     ⟨(some 11), .mov (.t 12), [0], none⟩] [] [8, 12])
   (.cond (.t 11)
    (.seq (.region [⟨(some 2), .mov (.c (.int .i64 2)), [], none⟩,
      ⟨(some 3), .mov (.c (.int .i64 4)), [0, 0], none⟩,
      ⟨(some 4), .mov (.c (.int .i64 0)), [1, 0, 1], none⟩] [] [5, 11])
    .ret)
    (.seq (.region [⟨(some 14), .bin .eql (.t 5) (.c (.int .i64 4)), [], none⟩,
      ⟨(some 13), .mov (.t 14), [0], none⟩] [] [5, 11, 14])
    (.cond (.t 13)
     (.seq (.region [⟨(some 2), .mov (.c (.int .i64 2)), [], none⟩,
       ⟨(some 3), .mov (.c (.int .i64 8)), [0, 0], none⟩,
       ⟨(some 4), .mov (.c (.int .i64 0)), [1, 0, 1], none⟩] [] [13])
     .ret)
     .skip))))))))))
 (.seq (.region [⟨(some 2), .mov (.c (.int .i64 0)), [], none⟩,
   ⟨(some 3), .mov (.c (.int .i64 0)), [0, 0], none⟩,
   ⟨(some 4), .mov (.c (.int .i64 11)), [1, 0, 1], none⟩] [] [13])
 .ret)))⟩

-- overseer/catalogue.Cell
def s14 : SFn := ⟨54, [.cell 4 (some 5), .tmp 5],
 (.seq (.region [⟨(some 4), .alloc .dyn (.agg [.nilsl, .nilsl, .nilsl, .nilsl, .nilsl]), [], none⟩,
   ⟨(some 5), .mov (.c (.int .i64 0)), [], none⟩] [] [5])
 (.seq (.seq (.region [⟨(some 10), .mov (.t 0), [], none⟩,
   ⟨(some 11), .mov (.t 1), [], none⟩,
   ⟨(some 12), .call .pure (.f 28) [(.t 10), (.t 11)], [0, 1], none⟩,
   ⟨(some 6), .mov (.t 12), [2, 2, 0, 1, 2], none⟩] [] [10, 11, 12])
 (.seq (.region [⟨(some 13), .mov (.t 6), [], none⟩,
   ⟨(some 14), .bin .neq (.t 13) (.c (.int .i64 0)), [0], none⟩] [] [13])
 (.cond (.t 14)
  (.seq (.region [⟨(some 15), .build [.nilsl, .nilsl, .nilsl, .nilsl, .nilsl] [], [], none⟩,
    ⟨(some 16), .mov (.t 6), [], none⟩,
    ⟨none, .store 5 (.t 4) (.t 15), [0, 0], none⟩,
    ⟨(some 5), .mov (.t 16), [1, 2, 0, 1, 2], none⟩] [] [0, 1, 6, 14, 15, 16])
  .ret)
  .skip)))
 (.seq (.seq (.region [⟨(some 17), .mov (.t 0), [], none⟩] [] [5, 0, 6, 14])
 (.block 0 (.seq (.region [⟨(some 19), .bin .eql (.t 17) (.c (.int .i64 1)), [], none⟩,
   ⟨(some 18), .mov (.t 19), [0], none⟩] [] [19])
 (.cond (.t 18)
  (.seq (.region [⟨(some 20), .call .heap (.f 32) [(.c (.int .i64 2))], [], none⟩,
    ⟨(some 7), .alloc .dyn (.agg [.nilsl, .nilsl, .nilsl, .nilsl, .nilsl]), [], none⟩,
    ⟨none, .store 5 (.t 7) (.t 20), [1, 0, 0, 0, 1], none⟩] [] [17, 18, 20])
  (.seq (.region [⟨(some 21), .mov (.t 1), [], none⟩,
    ⟨(some 22), .call .pure (.f 33) [(.c (.int .i64 0)), (.t 21)], [0], none⟩,
    ⟨(some 23), .bslice false .dyn 5 1 [(.str []), .nilsl, (.int .i64 0), .nilsl, .nilsl] [(0, 5, (.t 22))], [1], none⟩,
    ⟨(some 24), .faddr 2 (.t 7), [0, 1, 2], none⟩,
    ⟨none, .store 1 (.t 24) (.t 23), [3, 2, 1, 0, 1, 2], none⟩] [] [1, 21, 22, 23, 24])
  (.seq (.region [⟨(some 25), .load (some 5) (.t 7), [], none⟩,
    ⟨none, .store 5 (.t 4) (.t 25), [0, 0], none⟩,
    ⟨(some 5), .mov (.c (.int .i64 0)), [1, 0, 1], none⟩] [] [7, 25])
  .ret)))
  (.seq (.region [⟨(some 27), .bin .eql (.t 17) (.c (.int .i64 2)), [], none⟩,
    ⟨(some 26), .mov (.t 27), [0], none⟩] [] [18, 27])
  (.cond (.t 26)
   (.seq (.region [⟨(some 28), .mov (.t 1), [], none⟩,
     ⟨(some 29), .call .heap (.f 32) [(.t 28)], [0], none⟩,
     ⟨(some 8), .alloc .dyn (.agg [.nilsl, .nilsl, .nilsl, .nilsl, .nilsl]), [], none⟩,
     ⟨none, .store 5 (.t 8) (.t 29), [2, 1, 1, 0, 1, 2], none⟩] [] [17, 26, 28, 29])
   (.seq (.seq (.region [⟨(some 30), .mov (.t 1), [], none⟩,
     ⟨(some 31), .bin .sub (.t 30) (.c (.int .i64 1)), [0], none⟩,
     ⟨(some 32), .mov (.c (.int .i64 0)), [], none⟩] [] [1, 30])
   (.block 1 (.loop (.seq (.region [⟨(some 33), .bin .lss (.t 32) (.t 31), [], none⟩] [] [])
   (.seq (.cond (.t 33)
    .skip
    (.exit 1))
   (.seq (.block 2 (.seq (.region [⟨(some 34), .mov (.t 32), [], none⟩,
     ⟨(some 9), .mov (.t 34), [0, 0], none⟩] [] [33, 34])
   (.region [⟨(some 35), .faddr 2 (.t 8), [], none⟩,
     ⟨(some 36), .load none (.t 35), [0], none⟩,
     ⟨(some 37), .mov (.t 9), [], none⟩,
     ⟨(some 38), .call .pure (.f 33) [(.t 37), (.c (.int .i64 1))], [2], none⟩,
     ⟨(some 39), .bslice false .dyn 5 1 [(.str []), .nilsl, (.int .i64 0), .nilsl, .nilsl] [(0, 5, (.t 38))], [3], none⟩,
     ⟨(some 40), .append .dyn 5 96 (.t 36) (.t 39), [1, 4, 3], none⟩,
     ⟨(some 41), .faddr 2 (.t 8), [0, 1, 2, 3, 4, 5], none⟩,
     ⟨none, .store 1 (.t 41) (.t 40), [6, 5, 5, 0, 1, 2, 3, 4, 5], none⟩] [(1, 4)] [9, 35, 36, 37, 38, 39, 40, 41])))
   (.region [⟨(some 42), .bin .add (.t 32) (.c (.int .i64 1)), [], none⟩,
     ⟨(some 32), .mov (.t 42), [0], none⟩] [] [42])))))))
   (.seq (.region [⟨(some 43), .load (some 5) (.t 8), [], none⟩,
     ⟨none, .store 5 (.t 4) (.t 43), [0, 0], none⟩,
     ⟨(some 5), .mov (.c (.int .i64 0)), [1, 0, 1], none⟩] [] [8, 31, 32, 43])
   .ret)))
   (.seq (.region [⟨(some 45), .bin .eql (.t 17) (.c (.int .i64 3)), [], none⟩,
     ⟨(some 44), .mov (.t 45), [0], none⟩] [] [26, 45])
   (.cond (.t 44)
    (.seq (.region [⟨(some 46), .mov (.t 1), [], none⟩,
      ⟨(some 47), .call .heap (.f 34) [(.t 46)], [0], none⟩,
      ⟨none, .store 5 (.t 4) (.t 47), [1, 1, 0, 1], none⟩,
      ⟨(some 5), .mov (.c (.int .i64 0)), [2, 0, 1, 2], none⟩] [] [1, 17, 44, 46, 47])
    .ret)
    (.seq (.region [⟨(some 49), .bin .eql (.t 17) (.c (.int .i64 4)), [], none⟩,
      ⟨(some 48), .mov (.t 49), [0], none⟩] [] [17, 44, 49])
    (.cond (.t 48)
     (.seq (.region [⟨(some 50), .mov (.t 1), [], none⟩,
       ⟨(some 51), .call .heap (.f 35) [(.t 50)], [0], none⟩,
       ⟨none, .store 5 (.t 4) (.t 51), [1, 1, 0, 1], none⟩,
       ⟨(some 5), .mov (.c (.int .i64 0)), [2, 0, 1, 2], none⟩] [] [1, 48, 50, 51])
     .ret)
     .skip))))))))))
 (.seq (.region [⟨(some 52), .mov (.t 1), [], none⟩,
   ⟨(some 53), .call .heap (.f 36) [(.t 52)], [0], none⟩,
   ⟨none, .store 5 (.t 4) (.t 53), [1, 1, 0, 1], none⟩,
   ⟨(some 5), .mov (.c (.int .i64 0)), [2, 0, 1, 2], none⟩] [] [1, 48, 52, 53])
 .ret))))⟩

-- overseer/catalogue.Kinds
def s15 : SFn := ⟨2, [.tmp 0],
 (.seq (.region [⟨(some 0), .mov (.c .nilsl), [], none⟩] [] [0])
 (.seq (.region [⟨(some 1), .bslice false .dyn 1 5 [(.int .i64 0), (.int .i64 0), (.int .i64 0), (.int .i64 0), (.int .i64 0)] [(0, 1, (.c (.int .i64 1))), (1, 1, (.c (.int .i64 2))), (2, 1, (.c (.int .i64 3))), (3, 1, (.c (.int .i64 4))), (4, 1, (.c (.int .i64 5)))], [], none⟩,
   ⟨(some 0), .mov (.t 1), [0, 0], none⟩] [] [1])
 .ret))⟩

-- overseer/overseerlaw59.sizes
def s16 : SFn := ⟨20, [.tmp 2, .tmp 3],
 (.seq (.region [⟨(some 2), .mov (.c (.int .i64 0)), [], none⟩,
   ⟨(some 3), .mov (.c (.int .i64 0)), [0], none⟩] [] [2, 3])
 (.seq (.seq (.region [⟨(some 4), .mov (.t 0), [], none⟩,
   ⟨(some 5), .bin .lss (.t 4) (.c (.int .i64 1)), [0], none⟩,
   ⟨(some 6), .mov (.t 5), [1], none⟩,
   ⟨(some 7), .mov (.t 0), [2], (some (6, false))⟩,
   ⟨(some 8), .bin .gtr (.t 7) (.c (.int .i64 5)), [3, 2], (some (6, false))⟩,
   ⟨(some 9), .pick (.t 6) (.c (.bool true)) (.t 8), [2, 4], none⟩] [] [4, 5, 6, 7, 8])
 (.cond (.t 9)
  (.seq (.region [⟨(some 2), .mov (.c (.int .i64 0)), [], none⟩,
    ⟨(some 3), .mov (.c (.int .i64 0)), [0, 0], none⟩] [] [0, 9])
  .ret)
  .skip))
 (.seq (.region [⟨(some 10), .bslice false .dyn 1 5 [(.int .i64 0), (.int .i64 0), (.int .i64 0), (.int .i64 0), (.int .i64 0)] [(0, 1, (.c (.int .i64 1))), (1, 1, (.c (.int .i64 2))), (2, 1, (.c (.int .i64 2))), (3, 1, (.c (.int .i64 2))), (4, 1, (.c (.int .i64 2)))], [], none⟩,
   ⟨(some 11), .mov (.t 0), [], none⟩,
   ⟨(some 12), .bin .sub (.t 11) (.c (.int .i64 1)), [1], none⟩,
   ⟨(some 13), .iaddr none 1 (.t 10) (.t 12), [0, 2], none⟩,
   ⟨(some 14), .load none (.t 13), [3], none⟩,
   ⟨(some 15), .bslice false .dyn 1 5 [(.int .i64 0), (.int .i64 0), (.int .i64 0), (.int .i64 0), (.int .i64 0)] [(0, 1, (.c (.int .i64 8))), (1, 1, (.c (.int .i64 6))), (2, 1, (.c (.int .i64 4))), (3, 1, (.c (.int .i64 8))), (4, 1, (.c (.int .i64 6)))], [], none⟩,
   ⟨(some 16), .mov (.t 0), [], none⟩,
   ⟨(some 17), .bin .sub (.t 16) (.c (.int .i64 1)), [6], none⟩,
   ⟨(some 18), .iaddr none 1 (.t 15) (.t 17), [5, 7], none⟩,
   ⟨(some 19), .load none (.t 18), [8], none⟩,
   ⟨(some 2), .mov (.t 14), [4, 0, 1, 2, 3, 4], none⟩,
   ⟨(some 3), .mov (.t 19), [9, 10, 0, 1, 2, 3, 4, 5, 6, 7, 8, 9, 10], none⟩] [(0, 5), (4, 5), (0, 9)] [0, 9, 10, 11, 12, 13, 14, 15, 16, 17, 18, 19])
 .ret)))⟩

-- overseer/cell.Equal
def s17 : SFn := ⟨41, [.tmp 4],
 (.seq (.region [⟨(some 2), .box .dyn (.t 0), [], none⟩,
   ⟨(some 3), .box .dyn (.t 1), [], none⟩,
   ⟨(some 4), .mov (.c (.bool false)), [], none⟩] [] [0, 1, 4])
 (.seq (.region [⟨(some 5), .mov (.f 37), [], none⟩] [] [])
 (.seq (.region [⟨(some 6), .faddr 0 (.t 2), [], none⟩,
   ⟨(some 7), .load none (.t 6), [0], none⟩,
   ⟨(some 8), .faddr 0 (.t 3), [], none⟩,
   ⟨(some 9), .load none (.t 8), [2], none⟩,
   ⟨(some 10), .call .heap (.f 39) [(.t 7), (.t 9)], [1, 3], none⟩,
   ⟨(some 11), .mov (.t 10), [4, 4], none⟩,
   ⟨(some 12), .faddr 1 (.t 2), [5], (some (11, true))⟩,
   ⟨(some 13), .load none (.t 12), [6, 5], (some (11, true))⟩,
   ⟨(some 14), .faddr 1 (.t 3), [5], (some (11, true))⟩,
   ⟨(some 15), .load none (.t 14), [8, 5], (some (11, true))⟩,
   ⟨(some 16), .mov (.t 5), [5], (some (11, true))⟩,
   ⟨(some 17), .call .heap (.f 40) [(.t 13), (.t 15), (.t 16)], [7, 9, 10, 5, 5], (some (11, true))⟩,
   ⟨(some 18), .pick (.t 11) (.t 17) (.c (.bool false)), [5, 11], none⟩,
   ⟨(some 19), .mov (.t 18), [12, 11], none⟩,
   ⟨(some 20), .faddr 2 (.t 2), [13], (some (19, true))⟩,
   ⟨(some 21), .load none (.t 20), [14, 13], (some (19, true))⟩,
   ⟨(some 22), .faddr 2 (.t 3), [13], (some (19, true))⟩,
   ⟨(some 23), .load none (.t 22), [16, 13], (some (19, true))⟩,
   ⟨(some 24), .mov (.t 5), [13], (some (19, true))⟩,
   ⟨(some 25), .call .heap (.f 40) [(.t 21), (.t 23), (.t 24)], [15, 17, 18, 13, 13], (some (19, true))⟩,
   ⟨(some 26), .pick (.t 19) (.t 25) (.c (.bool false)), [13, 19], none⟩,
   ⟨(some 27), .mov (.t 26), [20, 19], none⟩,
   ⟨(some 28), .faddr 3 (.t 2), [21], (some (27, true))⟩,
   ⟨(some 29), .load none (.t 28), [22, 21], (some (27, true))⟩,
   ⟨(some 30), .faddr 3 (.t 3), [21], (some (27, true))⟩,
   ⟨(some 31), .load none (.t 30), [24, 21], (some (27, true))⟩,
   ⟨(some 32), .call .heap (.f 41) [(.t 29), (.t 31), (.f 42)], [23, 25, 21, 21], (some (27, true))⟩,
   ⟨(some 33), .pick (.t 27) (.t 32) (.c (.bool false)), [21, 26], none⟩,
   ⟨(some 34), .mov (.t 33), [27, 26], none⟩,
   ⟨(some 35), .faddr 4 (.t 2), [28], (some (34, true))⟩,
   ⟨(some 36), .load none (.t 35), [29, 28], (some (34, true))⟩,
   ⟨(some 37), .faddr 4 (.t 3), [28], (some (34, true))⟩,
   ⟨(some 38), .load none (.t 37), [31, 28], (some (34, true))⟩,
   ⟨(some 39), .call .heap (.f 44) [(.t 36), (.t 38), (.f 45)], [30, 32, 28, 28], (some (34, true))⟩,
   ⟨(some 40), .pick (.t 34) (.t 39) (.c (.bool false)), [28, 33], none⟩,
   ⟨(some 4), .mov (.t 40), [34, 33, 0, 1, 2, 3, 4, 5, 6, 7, 8, 9, 10, 11, 12, 13, 14, 15, 16, 17, 18, 19, 20, 21, 22, 23, 24, 25, 26, 27, 28, 29, 30, 31, 32, 33, 34], none⟩] [] [2, 3, 5, 6, 7, 8, 9, 10, 11, 12, 13, 14, 15, 16, 17, 18, 19, 20, 21, 22, 23, 24, 25, 26, 27, 28, 29, 30, 31, 32, 33, 34, 35, 36, 37, 38, 39, 40])
 .ret)))⟩

-- overseer/overseerlaw03.Has
def s18 : SFn := ⟨18, [.tmp 4],
 (.seq (.region [⟨(some 4), .mov (.c (.bool false)), [], none⟩] [] [4])
 (.seq (.seq (.region [⟨(some 5), .mov (.c (.int .i64 0)), [], none⟩] [] [])
 (.block 0 (.loop (.seq (.seq (.region [⟨(some 6), .mov (.t 5), [], none⟩,
   ⟨(some 7), .mov (.t 0), [], none⟩,
   ⟨(some 8), .len 1 (.t 7), [1], none⟩,
   ⟨(some 9), .bin .lss (.t 6) (.t 8), [0, 2], none⟩] [] [6, 7, 8])
 (.cond (.t 9)
  .skip
  (.exit 0)))
 (.seq (.block 1 (.seq (.region [⟨(some 12), .mov (.t 0), [], none⟩,
   ⟨(some 13), .mov (.t 5), [], none⟩,
   ⟨(some 14), .iaddr none 1 (.t 12) (.t 13), [0, 1], none⟩,
   ⟨(some 15), .load none (.t 14), [2], none⟩,
   ⟨(some 16), .mov (.t 1), [], none⟩,
   ⟨(some 17), .bin .eql (.t 15) (.t 16), [3, 4], none⟩] [] [9, 12, 13, 14, 15, 16])
 (.cond (.t 17)
  (.seq (.region [⟨(some 4), .mov (.c (.bool true)), [], none⟩] [] [0, 1, 5, 17])
  .ret)
  .skip)))
 (.region [⟨(some 10), .mov (.t 5), [], none⟩,
   ⟨(some 11), .bin .add (.t 10) (.c (.int .i64 1)), [0], none⟩,
   ⟨(some 5), .mov (.t 11), [1, 0, 1], none⟩] [] [4, 17, 10, 11]))))))
 (.seq (.region [⟨(some 4), .mov (.c (.bool false)), [], none⟩] [] [0, 1, 5])
 .ret)))⟩

-- overseer/catalogue.KnownNet
def s20 : SFn := ⟨70, [.cell 2 (some 4), .tmp 3],
 (.seq (.region [⟨(some 2), .alloc .dyn (.agg [(.int .i64 0), (.int .i64 0), .nilsl, .nilsl]), [], none⟩,
   ⟨(some 3), .mov (.c (.int .i64 0)), [], none⟩] [] [3])
 (.seq (.seq (.region [⟨(some 9), .mov (.t 0), [], none⟩,
   ⟨(some 10), .bin .lss (.t 9) (.c (.int .i64 2)), [0], none⟩,
   ⟨(some 11), .mov (.t 10), [1], none⟩,
   ⟨(some 12), .mov (.t 0), [2], (some (11, false))⟩,
   ⟨(some 13), .bin .gtr (.t 12) (.c (.int .i64 3)), [3, 2], (some (11, false))⟩,
   ⟨(some 14), .pick (.t 11) (.c (.bool true)) (.t 13), [2, 4], none⟩] [] [9, 10, 11, 12, 13])
 (.cond (.t 14)
  (.seq (.region [⟨(some 15), .build [(.int .i64 0), (.int .i64 0), .nilsl, .nilsl] [], [], none⟩,
    ⟨none, .store 4 (.t 2) (.t 15), [0, 0], none⟩,
    ⟨(some 3), .mov (.c (.int .i64 2)), [1, 0, 1], none⟩] [] [0, 14, 15])
  .ret)
  .skip))
 (.seq (.region [⟨(some 16), .bslice false .dyn 1 2 [(.int .i64 0), (.int .i64 0)] [(0, 1, (.c (.int .i64 6))), (1, 1, (.c (.int .i64 14)))], [], none⟩,
   ⟨(some 17), .mov (.t 0), [], none⟩,
   ⟨(some 18), .bin .sub (.t 17) (.c (.int .i64 2)), [1], none⟩,
   ⟨(some 19), .iaddr none 1 (.t 16) (.t 18), [0, 2], none⟩,
   ⟨(some 20), .load none (.t 19), [3], none⟩,
   ⟨(some 21), .build [(.int .i64 0), (.int .i64 0), .nilsl, .nilsl] [(0, 1, (.t 20)), (1, 1, (.c (.int .i64 1)))], [4], none⟩,
   ⟨(some 4), .alloc .dyn (.agg [(.int .i64 0), (.int .i64 0), .nilsl, .nilsl]), [], none⟩,
   ⟨none, .store 4 (.t 4) (.t 21), [6, 5, 0, 1, 2, 3, 4, 5, 6], none⟩] [] [3, 14, 16, 17, 18, 19, 20, 21])
 (.seq (.seq (.region [⟨(some 22), .mov (.t 0), [], none⟩,
   ⟨(some 23), .mov (.c (.int .i64 0)), [], none⟩] [] [])
 (.block 0 (.loop (.seq (.region [⟨(some 24), .bin .lss (.t 23) (.t 22), [], none⟩] [] [])
 (.seq (.cond (.t 24)
  .skip
  (.exit 0))
 (.seq (.block 1 (.seq (.region [⟨(some 25), .mov (.t 23), [], none⟩,
   ⟨(some 5), .mov (.t 25), [0, 0], none⟩] [] [24, 25])
 (.seq (.region [⟨(some 26), .faddr 2 (.t 4), [], none⟩,
   ⟨(some 27), .load none (.t 26), [0], none⟩,
   ⟨(some 28), .mov (.t 5), [], none⟩,
   ⟨(some 29), .bin .mul (.c (.int .i64 3)) (.t 28), [2], none⟩,
   ⟨(some 30), .bslice false .dyn 1 1 [(.int .i64 0)] [(0, 1, (.t 29))], [3], none⟩,
   ⟨(some 31), .append .dyn 1 8 (.t 27) (.t 30), [1, 4], none⟩,
   ⟨(some 32), .faddr 2 (.t 4), [0, 1, 2, 3, 4, 5], none⟩,
   ⟨none, .store 1 (.t 32) (.t 31), [6, 5, 5, 0, 1, 2, 3, 4, 5], none⟩] [] [26, 27, 28, 29, 30, 31, 32])
 (.seq (.region [⟨(some 33), .mov (.t 0), [], none⟩,
   ⟨(some 34), .bin .mul (.c (.int .i64 3)) (.t 33), [0], none⟩,
   ⟨(some 35), .mkslice .dyn 1 8 [(.int .i64 0)] (.t 34) (.t 34), [1, 1], none⟩,
   ⟨(some 6), .mov (.t 35), [2, 0, 1, 2], none⟩] [] [33, 34, 35])
 (.seq (.seq (.region [⟨(some 36), .mov (.t 5), [], none⟩,
   ⟨(some 37), .bin .mul (.c (.int .i64 3)) (.t 36), [0], none⟩,
   ⟨(some 38), .mov (.t 5), [], none⟩,
   ⟨(some 39), .bin .mul (.c (.int .i64 3)) (.t 38), [2], none⟩,
   ⟨(some 40), .bin .add (.t 39) (.c (.int .i64 1)), [3], none⟩,
   ⟨(some 41), .mov (.t 5), [], none⟩,
   ⟨(some 42), .bin .mul (.c (.int .i64 3)) (.t 41), [5], none⟩,
   ⟨(some 43), .bin .add (.t 42) (.c (.int .i64 2)), [6], none⟩,
   ⟨(some 44), .mov (.t 5), [], none⟩,
   ⟨(some 45), .mov (.t 0), [], none⟩,
   ⟨(some 46), .bin .add (.t 44) (.t 45), [8, 9], none⟩,
   ⟨(some 47), .bin .sub (.t 46) (.c (.int .i64 1)), [10], none⟩,
   ⟨(some 48), .mov (.t 0), [], none⟩,
   ⟨(some 49), .bin .rem (.t 47) (.t 48), [11, 12], none⟩,
   ⟨(some 50), .bin .mul (.c (.int .i64 3)) (.t 49), [13], none⟩,
   ⟨(some 51), .bin .add (.t 50) (.c (.int .i64 2)), [14], none⟩,
   ⟨(some 52), .bslice false .dyn 1 4 [(.int .i64 0), (.int .i64 0), (.int .i64 0), (.int .i64 0)] [(0, 1, (.t 37)), (1, 1, (.t 40)), (2, 1, (.t 43)), (3, 1, (.t 51))], [1, 4, 7, 15], none⟩,
   ⟨(some 53), .len 1 (.t 52), [16], none⟩,
   ⟨(some 54), .mov (.c (.int .i64 0)), [], none⟩] [] [5, 36, 37, 38, 39, 40, 41, 42, 43, 44, 45, 46, 47, 48, 49, 50, 51])
 (.block 2 (.loop (.seq (.region [⟨(some 55), .bin .lss (.t 54) (.t 53), [], none⟩] [] [])
 (.seq (.cond (.t 55)
  .skip
  (.exit 2))
 (.seq (.block 3 (.seq (.region [⟨(some 56), .iaddr none 1 (.t 52) (.t 54), [], none⟩,
   ⟨(some 57), .load none (.t 56), [0], none⟩,
   ⟨(some 8), .mov (.t 57), [1, 0, 1], none⟩] [] [55, 56, 57])
 (.region [⟨(some 58), .mov (.t 6), [], none⟩,
   ⟨(some 59), .mov (.t 8), [], none⟩,
   ⟨(some 60), .iaddr none 1 (.t 58) (.t 59), [0, 1, 0, 1], none⟩,
   ⟨none, .store 1 (.t 60) (.c (.int .i64 1)), [2, 0, 1], none⟩] [] [8, 58, 59, 60])))
 (.region [⟨(some 61), .bin .add (.t 54) (.c (.int .i64 1)), [], none⟩,
   ⟨(some 54), .mov (.t 61), [0], none⟩] [] [61])))))))
 (.region [⟨(some 62), .faddr 3 (.t 4), [], none⟩,
   ⟨(some 63), .load none (.t 62), [0], none⟩,
   ⟨(some 64), .mov (.t 6), [], none⟩,
   ⟨(some 65), .bslice false .dyn 1 1 [.nilsl] [(0, 1, (.t 64))], [2], none⟩,
   ⟨(some 66), .append .dyn 1 24 (.t 63) (.t 65), [1, 3], none⟩,
   ⟨(some 67), .faddr 3 (.t 4), [0, 1, 2, 3, 4], none⟩,
   ⟨none, .store 1 (.t 67) (.t 66), [5, 4, 4, 0, 1, 2, 3, 4], none⟩] [] [6, 52, 53, 54, 62, 63, 64, 65, 66, 67]))))))
 (.region [⟨(some 68), .bin .add (.t 23) (.c (.int .i64 1)), [], none⟩,
   ⟨(some 23), .mov (.t 68), [0], none⟩] [] [68])))))))
 (.seq (.region [⟨(some 69), .load (some 4) (.t 4), [], none⟩,
   ⟨none, .store 4 (.t 2) (.t 69), [0, 0], none⟩,
   ⟨(some 3), .mov (.c (.int .i64 0)), [1, 0, 1], none⟩] [] [0, 4, 22, 23, 69])
 .ret)))))⟩

-- overseer/catalogue.Plant
def s27 : SFn := ⟨68, [.tmp 2, .cell 3 (some 4), .tmp 4, .tmp 5, .tmp 6],
 (.seq (.region [⟨(some 2), .mov (.c .nilsl), [], none⟩,
   ⟨(some 3), .alloc .dyn (.agg [.nilsl, (.int .i64 0), .nilsl, .nilsl]), [], none⟩,
   ⟨(some 4), .mov (.c (.int .i64 0)), [0], none⟩,
   ⟨(some 5), .mov (.c (.int .i64 0)), [2], none⟩,
   ⟨(some 6), .mov (.c (.int .i64 0)), [3], none⟩] [] [2, 4, 5, 6])
 (.seq (.seq (.region [⟨(some 9), .mov (.t 0), [], none⟩,
   ⟨(some 10), .bin .lss (.t 9) (.c (.int .i64 0)), [0], none⟩,
   ⟨(some 11), .mov (.t 10), [1], none⟩,
   ⟨(some 12), .mov (.t 0), [2], (some (11, false))⟩,
   ⟨(some 13), .bin .gtr (.t 12) (.c (.int .i64 16)), [3, 2], (some (11, false))⟩,
   ⟨(some 14), .pick (.t 11) (.c (.bool true)) (.t 13), [2, 4], none⟩] [] [9, 10, 11, 12, 13])
 (.cond (.t 14)
  (.seq (.region [⟨(some 15), .load (some 4) (.t 3), [], none⟩,
    ⟨(some 2), .mov (.c .nilsl), [], none⟩,
    ⟨none, .store 4 (.t 3) (.t 15), [0, 1, 0, 1], none⟩,
    ⟨(some 4), .mov (.c (.int .i64 0)), [2, 0, 1, 2], none⟩,
    ⟨(some 5), .mov (.c (.int .i64 0)), [3, 0, 1, 2, 3], none⟩,
    ⟨(some 6), .mov (.c (.int .i64 2)), [4, 0, 1, 2, 3, 4], none⟩] [] [0, 14, 15])
  .ret)
  .skip))
 (.seq (.region [⟨(some 16), .build [(.str []), (.bool false), (.bool false), (.bool false), (.int .i64 0)] [(0, 1, (.c (.str [97]))), (2, 1, (.c (.bool true)))], [], none⟩,
   ⟨(some 17), .build [(.str []), (.bool false), (.bool false), (.bool false), (.int .i64 0)] [(0, 1, (.c (.str [102]))), (4, 1, (.c (.int .i64 1)))], [], none⟩,
   ⟨(some 18), .build [(.str []), (.bool false), (.bool false), (.bool false), (.int .i64 0)] [(0, 1, (.c (.str [98]))), (2, 1, (.c (.bool true)))], [], none⟩,
   ⟨(some 19), .bslice false .dyn 5 3 [(.str []), (.bool false), (.bool false), (.bool false), (.int .i64 0), (.str []), (.bool false), (.bool false), (.bool false), (.int .i64 0), (.str []), (.bool false), (.bool false), (.bool false), (.int .i64 0)] [(0, 5, (.t 16)), (5, 5, (.t 17)), (10, 5, (.t 18))], [0, 1, 2], none⟩,
   ⟨(some 2), .mov (.t 19), [3, 0, 1, 2, 3], none⟩] [] [4, 5, 6, 14, 16, 17, 18, 19])
 (.seq (.region [⟨(some 20), .bslice false .dyn 1 3 [(.int .i64 0), (.int .i64 0), (.int .i64 0)] [(0, 1, (.c (.int .i64 0))), (1, 1, (.c (.int .i64 1))), (2, 1, (.c (.int .i64 2)))], [], none⟩,
   ⟨(some 21), .mov (.t 0), [], none⟩,
   ⟨(some 22), .bin .add (.t 21) (.c (.int .i64 2)), [1], none⟩,
   ⟨(some 23), .build [(.int .i64 0), (.int .i64 0), (.int .i64 0)] [(0, 1, (.c (.int .i64 0))), (1, 1, (.c (.int .i64 0))), (2, 1, (.c (.int .i64 0)))], [], none⟩,
   ⟨(some 24), .build [(.int .i64 0), (.int .i64 0), (.int .i64 0)] [(0, 1, (.c (.int .i64 0))), (1, 1, (.c (.int .i64 1))), (2, 1, (.c (.int .i64 1)))], [], none⟩,
   ⟨(some 25), .bslice false .dyn 3 2 [(.int .i64 0), (.int .i64 0), (.int .i64 0), (.int .i64 0), (.int .i64 0), (.int .i64 0)] [(0, 3, (.t 23)), (3, 3, (.t 24))], [3, 4], none⟩,
   ⟨(some 26), .build [.nilsl, (.int .i64 0), .nilsl, .nilsl] [(0, 1, (.t 20)), (1, 1, (.t 22)), (3, 1, (.t 25))], [0, 2, 5], none⟩,
   ⟨none, .store 4 (.t 3) (.t 26), [6, 0, 1, 2, 3, 4, 5, 6], none⟩] [] [20, 21, 22, 23, 24, 25, 26])
 (.seq (.seq (.region [⟨(some 27), .mov (.t 0), [], none⟩,
   ⟨(some 28), .mov (.c (.int .i64 0)), [], none⟩] [] [])
 (.block 0 (.loop (.seq (.region [⟨(some 29), .bin .lss (.t 28) (.t 27), [], none⟩] [] [])
 (.seq (.cond (.t 29)
  .skip
  (.exit 0))
 (.seq (.block 1 (.seq (.region [⟨(some 30), .mov (.t 28), [], none⟩,
   ⟨(some 7), .mov (.t 30), [0, 0], none⟩] [] [29, 30])
 (.region [⟨(some 31), .faddr 3 (.t 3), [], none⟩,
   ⟨(some 32), .load none (.t 31), [0], none⟩,
   ⟨(some 33), .mov (.t 7), [], none⟩,
   ⟨(some 34), .bin .add (.c (.int .i64 1)) (.t 33), [2], none⟩,
   ⟨(some 35), .mov (.t 7), [], none⟩,
   ⟨(some 36), .bin .add (.c (.int .i64 2)) (.t 35), [4], none⟩,
   ⟨(some 37), .build [(.int .i64 0), (.int .i64 0), (.int .i64 0)] [(0, 1, (.t 34)), (1, 1, (.c (.int .i64 0))), (2, 1, (.t 36))], [3, 5], none⟩,
   ⟨(some 38), .bslice false .dyn 3 1 [(.int .i64 0), (.int .i64 0), (.int .i64 0)] [(0, 3, (.t 37))], [6], none⟩,
   ⟨(some 39), .append .dyn 3 24 (.t 32) (.t 38), [1, 7], none⟩,
   ⟨(some 40), .faddr 3 (.t 3), [0, 1, 2, 3, 4, 5, 6, 7, 8], none⟩,
   ⟨none, .store 1 (.t 40) (.t 39), [9, 8, 8, 0, 1, 2, 3, 4, 5, 6, 7, 8], none⟩] [] [7, 31, 32, 33, 34, 35, 36, 37, 38, 39, 40])))
 (.region [⟨(some 41), .bin .add (.t 28) (.c (.int .i64 1)), [], none⟩,
   ⟨(some 28), .mov (.t 41), [0], none⟩] [] [41])))))))
 (.seq (.region [⟨(some 42), .faddr 3 (.t 3), [], none⟩,
   ⟨(some 43), .load none (.t 42), [0], none⟩,
   ⟨(some 44), .mov (.t 0), [], none⟩,
   ⟨(some 45), .bin .add (.t 44) (.c (.int .i64 1)), [2], none⟩,
   ⟨(some 46), .mov (.t 0), [], none⟩,
   ⟨(some 47), .bin .add (.t 46) (.c (.int .i64 1)), [4], none⟩,
   ⟨(some 48), .build [(.int .i64 0), (.int .i64 0), (.int .i64 0)] [(0, 1, (.t 45)), (1, 1, (.c (.int .i64 2))), (2, 1, (.t 47))], [3, 5], none⟩,
   ⟨(some 49), .bslice false .dyn 3 1 [(.int .i64 0), (.int .i64 0), (.int .i64 0)] [(0, 3, (.t 48))], [6], none⟩,
   ⟨(some 50), .append .dyn 3 24 (.t 43) (.t 49), [1, 7], none⟩,
   ⟨(some 51), .faddr 3 (.t 3), [0, 1, 2, 3, 4, 5, 6, 7, 8], none⟩,
   ⟨none, .store 1 (.t 51) (.t 50), [9, 8, 8, 0, 1, 2, 3, 4, 5, 6, 7, 8], none⟩] [] [27, 28, 42, 43, 44, 45, 46, 47, 48, 49, 50, 51])
 (.seq (.seq (.region [⟨(some 52), .faddr 1 (.t 3), [], none⟩,
   ⟨(some 53), .load none (.t 52), [0], none⟩,
   ⟨(some 54), .mov (.c (.int .i64 0)), [], none⟩] [] [52])
 (.block 2 (.loop (.seq (.region [⟨(some 55), .bin .lss (.t 54) (.t 53), [], none⟩] [] [])
 (.seq (.cond (.t 55)
  .skip
  (.exit 2))
 (.seq (.block 3 (.seq (.region [⟨(some 56), .mov (.t 54), [], none⟩,
   ⟨(some 8), .mov (.t 56), [0, 0], none⟩] [] [55, 56])
 (.region [⟨(some 57), .faddr 2 (.t 3), [], none⟩,
   ⟨(some 58), .load none (.t 57), [0], none⟩,
   ⟨(some 59), .mov (.t 8), [], none⟩,
   ⟨(some 60), .bslice false .dyn 1 1 [(.int .i64 0)] [(0, 1, (.t 59))], [2], none⟩,
   ⟨(some 61), .append .dyn 1 8 (.t 58) (.t 60), [1, 3], none⟩,
   ⟨(some 62), .faddr 2 (.t 3), [0, 1, 2, 3, 4], none⟩,
   ⟨none, .store 1 (.t 62) (.t 61), [5, 4, 4, 0, 1, 2, 3, 4], none⟩] [] [8, 57, 58, 59, 60, 61, 62])))
 (.region [⟨(some 63), .bin .add (.t 54) (.c (.int .i64 1)), [], none⟩,
   ⟨(some 54), .mov (.t 63), [0], none⟩] [] [63])))))))
 (.seq (.region [⟨(some 64), .mov (.t 2), [], none⟩,
   ⟨(some 65), .load (some 4) (.t 3), [], none⟩,
   ⟨(some 66), .mov (.t 0), [], none⟩,
   ⟨(some 67), .bin .add (.t 66) (.c (.int .i64 1)), [2], none⟩,
   ⟨(some 2), .mov (.t 64), [0, 0], none⟩,
   ⟨none, .store 4 (.t 3) (.t 65), [1, 4, 0, 1, 4], none⟩,
   ⟨(some 4), .mov (.c (.int .i64 1)), [5, 0, 1, 4, 5], none⟩,
   ⟨(some 5), .mov (.t 67), [3, 6, 0, 1, 2, 3, 4, 5, 6], none⟩,
   ⟨(some 6), .mov (.c (.int .i64 0)), [7, 0, 1, 2, 3, 4, 5, 6, 7], none⟩] [] [0, 53, 54, 64, 65, 66, 67])
 .ret))))))))⟩

-- overseer/catalogue.check
def s28 : SFn := ⟨25, [.tmp 4],
 (.seq (.region [⟨(some 4), .mov (.c (.int .i64 0)), [], none⟩] [] [4])
 (.seq (.region [⟨(some 9), .mov (.t 0), [], none⟩,
   ⟨(some 10), .call .pure (.f 13) [(.t 9)], [0], none⟩,
   ⟨(some 8), .mov (.t 10), [1], none⟩,
   ⟨(some 11), .extract 0 (.t 8), [2], none⟩,
   ⟨(some 12), .extract 1 (.t 8), [2], none⟩,
   ⟨(some 13), .extract 2 (.t 8), [2], none⟩,
   ⟨(some 5), .mov (.t 11), [3, 1, 0, 1, 2, 3], none⟩,
   ⟨(some 6), .mov (.t 12), [4, 6, 0, 1, 2, 3, 4, 6], none⟩,
   ⟨(some 7), .mov (.t 13), [5, 7, 0, 1, 2, 3, 4, 5, 6, 7], none⟩] [] [0, 9, 10, 8, 11, 12, 13])
 (.seq (.seq (.region [⟨(some 14), .mov (.t 7), [], none⟩,
   ⟨(some 15), .bin .neq (.t 14) (.c (.int .i64 0)), [0], none⟩] [] [14])
 (.cond (.t 15)
  (.seq (.region [⟨(some 16), .mov (.t 7), [], none⟩,
    ⟨(some 4), .mov (.t 16), [0, 0], none⟩] [] [1, 5, 6, 7, 15, 16])
  .ret)
  .skip))
 (.seq (.seq (.region [⟨(some 17), .mov (.t 1), [], none⟩,
   ⟨(some 18), .mov (.t 5), [], none⟩,
   ⟨(some 19), .bin .lss (.t 17) (.t 18), [0, 1], none⟩,
   ⟨(some 20), .mov (.t 19), [2], none⟩,
   ⟨(some 21), .mov (.t 1), [3], (some (20, false))⟩,
   ⟨(some 22), .mov (.t 6), [3], (some (20, false))⟩,
   ⟨(some 23), .bin .gtr (.t 21) (.t 22), [4, 5, 3], (some (20, false))⟩,
   ⟨(some 24), .pick (.t 20) (.c (.bool true)) (.t 23), [3, 6], none⟩] [] [4, 1, 5, 6, 7, 15, 17, 18, 19, 20, 21, 22, 23])
 (.cond (.t 24)
  (.seq (.region [⟨(some 4), .mov (.c (.int .i64 2)), [], none⟩] [] [24])
  .ret)
  .skip))
 (.seq (.region [⟨(some 4), .mov (.c (.int .i64 0)), [], none⟩] [] [24])
 .ret)))))⟩

-- overseer/catalogue.counted
def s29 : SFn := ⟨15, [.cell 8 (some 5)],
 (.seq (.region [⟨(some 8), .alloc .dyn (.agg [(.int .i64 0), (.int .i64 0), (.int .i64 0), (.int .i64 0), .nilsl]), [], none⟩] [] [])
 (.seq (.region [⟨(some 9), .mov (.t 0), [], none⟩,
   ⟨(some 10), .mov (.t 2), [], none⟩,
   ⟨(some 11), .mov (.t 1), [], none⟩,
   ⟨(some 12), .mov (.t 1), [], none⟩,
   ⟨(some 13), .mov (.t 3), [], none⟩,
   ⟨(some 14), .build [(.int .i64 0), (.int .i64 0), (.int .i64 0), (.int .i64 0), .nilsl] [(0, 1, (.t 9)), (1, 1, (.t 10)), (2, 1, (.t 11)), (3, 1, (.t 12)), (4, 1, (.t 13))], [0, 1, 2, 3, 4], none⟩,
   ⟨none, .store 5 (.t 8) (.t 14), [5, 0, 1, 2, 3, 4, 5], none⟩] [] [0, 1, 2, 3, 9, 10, 11, 12, 13, 14])
 .ret))⟩

-- overseer/catalogue.power
def s30 : SFn := ⟨14, [.tmp 4],
 (.seq (.region [⟨(some 4), .mov (.c (.int .i64 0)), [], none⟩] [] [4])
 (.seq (.region [⟨(some 5), .mov (.c (.int .i64 1)), [], none⟩] [] [])
 (.seq (.seq (.region [⟨(some 6), .mov (.t 1), [], none⟩,
   ⟨(some 7), .mov (.c (.int .i64 0)), [], none⟩] [] [1])
 (.block 0 (.loop (.seq (.region [⟨(some 8), .bin .lss (.t 7) (.t 6), [], none⟩] [] [])
 (.seq (.cond (.t 8)
  .skip
  (.exit 0))
 (.seq (.block 1 (.region [⟨(some 9), .mov (.t 5), [], none⟩,
   ⟨(some 10), .mov (.t 0), [], none⟩,
   ⟨(some 11), .bin .mul (.t 9) (.t 10), [0, 1], none⟩,
   ⟨(some 5), .mov (.t 11), [2, 0, 1, 2], none⟩] [] [8, 9, 10, 11]))
 (.region [⟨(some 12), .bin .add (.t 7) (.c (.int .i64 1)), [], none⟩,
   ⟨(some 7), .mov (.t 12), [0], none⟩] [] [12])))))))
 (.seq (.region [⟨(some 13), .mov (.t 5), [], none⟩,
   ⟨(some 4), .mov (.t 13), [0, 0], none⟩] [] [0, 5, 6, 7, 13])
 .ret))))⟩

-- overseer/overseerlaw59.power
def s31 : SFn := ⟨16, [.tmp 4],
 (.seq (.region [⟨(some 4), .mov (.c (.int .i64 0)), [], none⟩] [] [4])
 (.seq (.region [⟨(some 5), .mov (.c (.int .i64 1)), [], none⟩] [] [])
 (.seq (.seq (.region [⟨(some 6), .mov (.c (.int .i64 0)), [], none⟩] [] [])
 (.block 0 (.loop (.seq (.seq (.region [⟨(some 7), .mov (.t 6), [], none⟩,
   ⟨(some 8), .mov (.t 1), [], none⟩,
   ⟨(some 9), .bin .lss (.t 7) (.t 8), [0, 1], none⟩] [] [7, 8])
 (.cond (.t 9)
  .skip
  (.exit 0)))
 (.seq (.block 1 (.region [⟨(some 12), .mov (.t 5), [], none⟩,
   ⟨(some 13), .mov (.t 0), [], none⟩,
   ⟨(some 14), .bin .mul (.t 12) (.t 13), [0, 1], none⟩,
   ⟨(some 5), .mov (.t 14), [2, 0, 1, 2], none⟩] [] [9, 12, 13, 14]))
 (.region [⟨(some 10), .mov (.t 6), [], none⟩,
   ⟨(some 11), .bin .add (.t 10) (.c (.int .i64 1)), [0], none⟩,
   ⟨(some 6), .mov (.t 11), [1, 0, 1], none⟩] [] [10, 11]))))))
 (.seq (.region [⟨(some 15), .mov (.t 5), [], none⟩,
   ⟨(some 4), .mov (.t 15), [0, 0], none⟩] [] [0, 1, 5, 6, 15])
 .ret))))⟩

-- overseer/catalogue.machines
def s32 : SFn := ⟨22, [.cell 2 (some 5)],
 (.seq (.region [⟨(some 2), .alloc .dyn (.agg [.nilsl, .nilsl, .nilsl, .nilsl, .nilsl]), [], none⟩] [] [])
 (.seq (.region [⟨(some 5), .mov (.t 0), [], none⟩,
   ⟨(some 6), .bslice false .dyn 1 2 [(.str []), (.str [])] [(0, 1, (.c (.str [115, 116, 97, 114, 116]))), (1, 1, (.c (.str [102, 105, 110, 105, 115, 104])))], [], none⟩,
   ⟨(some 7), .call .heap (.f 58) [(.t 5), (.t 6)], [0, 1], none⟩,
   ⟨(some 8), .build [.nilsl, .nilsl, .nilsl, .nilsl, .nilsl] [(0, 1, (.t 7))], [2], none⟩,
   ⟨(some 3), .alloc .dyn (.agg [.nilsl, .nilsl, .nilsl, .nilsl, .nilsl]), [], none⟩,
   ⟨none, .store 5 (.t 3) (.t 8), [4, 3, 2, 0, 1, 2, 3, 4], none⟩] [] [5, 6, 7, 8])
 (.seq (.seq (.region [⟨(some 9), .mov (.t 0), [], none⟩,
   ⟨(some 10), .mov (.c (.int .i64 0)), [], none⟩] [] [0])
 (.block 0 (.loop (.seq (.region [⟨(some 11), .bin .lss (.t 10) (.t 9), [], none⟩] [] [])
 (.seq (.cond (.t 11)
  .skip
  (.exit 0))
 (.seq (.block 1 (.seq (.region [⟨(some 12), .mov (.t 10), [], none⟩,
   ⟨(some 4), .mov (.t 12), [0, 0], none⟩] [] [11, 12])
 (.region [⟨(some 13), .faddr 1 (.t 3), [], none⟩,
   ⟨(some 14), .load none (.t 13), [0], none⟩,
   ⟨(some 15), .mov (.t 4), [], none⟩,
   ⟨(some 16), .call .pure (.f 59) [(.c (.str [109, 97, 99, 104, 105, 110, 101])), (.t 15)], [2], none⟩,
   ⟨(some 17), .bslice false .dyn 5 1 [(.str []), .nilsl, (.int .i64 0), .nilsl, .nilsl] [(0, 5, (.t 16))], [3], none⟩,
   ⟨(some 18), .append .dyn 5 96 (.t 14) (.t 17), [1, 4, 3], none⟩,
   ⟨(some 19), .faddr 1 (.t 3), [0, 1, 2, 3, 4, 5], none⟩,
   ⟨none, .store 1 (.t 19) (.t 18), [6, 5, 5, 0, 1, 2, 3, 4, 5], none⟩] [(1, 4)] [4, 13, 14, 15, 16, 17, 18, 19])))
 (.region [⟨(some 20), .bin .add (.t 10) (.c (.int .i64 1)), [], none⟩,
   ⟨(some 10), .mov (.t 20), [0], none⟩] [] [20])))))))
 (.seq (.region [⟨(some 21), .load (some 5) (.t 3), [], none⟩,
   ⟨none, .store 5 (.t 2) (.t 21), [0, 0], none⟩] [] [3, 9, 10, 21])
 .ret))))⟩

-- overseer/catalogue.buffer
def s33 : SFn := ⟨63, [.cell 4 (some 5)],
 (.seq (.region [⟨(some 4), .alloc .dyn (.agg [(.str []), .nilsl, (.int .i64 0), .nilsl, .nilsl]), [], none⟩] [] [])
 (.seq (.region [⟨(some 7), .mov (.t 0), [], none⟩,
   ⟨(some 8), .bin .mul (.c (.int .i64 2)) (.t 7), [0], none⟩,
   ⟨(some 9), .bin .add (.t 8) (.c (.int .i64 1)), [1], none⟩,
   ⟨(some 10), .mov (.t 0), [], none⟩,
   ⟨(some 11), .bin .mul (.c (.int .i64 2)) (.t 10), [3], none⟩,
   ⟨(some 12), .bin .add (.t 11) (.c (.int .i64 2)), [4], none⟩,
   ⟨(some 13), .bslice false .dyn 1 2 [(.int .i64 0), (.int .i64 0)] [(0, 1, (.t 9)), (1, 1, (.t 12))], [2, 5], none⟩,
   ⟨(some 14), .mov (.t 1), [], none⟩,
   ⟨(some 15), .bin .add (.t 14) (.c (.int .i64 1)), [7], none⟩,
   ⟨(some 16), .build [.nilsl, (.int .i64 0), .nilsl, .nilsl] [(0, 1, (.t 13)), (1, 1, (.t 15))], [6, 8], none⟩,
   ⟨(some 5), .alloc .dyn (.agg [.nilsl, (.int .i64 0), .nilsl, .nilsl]), [], none⟩,
   ⟨none, .store 4 (.t 5) (.t 16), [10, 9, 0, 1, 2, 3, 4, 5, 6, 7, 8, 9, 10], none⟩] [] [7, 8, 9, 10, 11, 12, 13, 14, 15, 16])
 (.seq (.seq (.region [⟨(some 17), .faddr 1 (.t 5), [], none⟩,
   ⟨(some 18), .load none (.t 17), [0], none⟩,
   ⟨(some 19), .mov (.c (.int .i64 0)), [], none⟩] [] [17])
 (.block 0 (.loop (.seq (.region [⟨(some 20), .bin .lss (.t 19) (.t 18), [], none⟩] [] [])
 (.seq (.cond (.t 20)
  .skip
  (.exit 0))
 (.seq (.block 1 (.seq (.region [⟨(some 21), .mov (.t 19), [], none⟩,
   ⟨(some 6), .mov (.t 21), [0, 0], none⟩] [] [20, 21])
 (.seq (.region [⟨(some 22), .faddr 2 (.t 5), [], none⟩,
   ⟨(some 23), .load none (.t 22), [0], none⟩,
   ⟨(some 24), .mov (.t 6), [], none⟩,
   ⟨(some 25), .bslice false .dyn 1 1 [(.int .i64 0)] [(0, 1, (.t 24))], [2], none⟩,
   ⟨(some 26), .append .dyn 1 8 (.t 23) (.t 25), [1, 3], none⟩,
   ⟨(some 27), .faddr 2 (.t 5), [0, 1, 2, 3, 4], none⟩,
   ⟨none, .store 1 (.t 27) (.t 26), [5, 4, 4, 0, 1, 2, 3, 4], none⟩] [] [22, 23, 24, 25, 26, 27])
 (.seq (.seq (.region [⟨(some 28), .mov (.t 6), [], none⟩,
   ⟨(some 29), .mov (.t 1), [], none⟩,
   ⟨(some 30), .bin .lss (.t 28) (.t 29), [0, 1], none⟩] [] [28, 29])
 (.cond (.t 30)
  (.region [⟨(some 31), .faddr 3 (.t 5), [], none⟩,
    ⟨(some 32), .load none (.t 31), [0], none⟩,
    ⟨(some 33), .mov (.t 6), [], none⟩,
    ⟨(some 34), .mov (.t 0), [], none⟩,
    ⟨(some 35), .bin .mul (.c (.int .i64 2)) (.t 34), [3], none⟩,
    ⟨(some 36), .bin .add (.t 35) (.c (.int .i64 1)), [4], none⟩,
    ⟨(some 37), .mov (.t 6), [], none⟩,
    ⟨(some 38), .bin .add (.t 37) (.c (.int .i64 1)), [6], none⟩,
    ⟨(some 39), .build [(.int .i64 0), (.int .i64 0), (.int .i64 0)] [(0, 1, (.t 33)), (1, 1, (.t 36)), (2, 1, (.t 38))], [2, 5, 7], none⟩,
    ⟨(some 40), .bslice false .dyn 3 1 [(.int .i64 0), (.int .i64 0), (.int .i64 0)] [(0, 3, (.t 39))], [8], none⟩,
    ⟨(some 41), .append .dyn 3 24 (.t 32) (.t 40), [1, 9], none⟩,
    ⟨(some 42), .faddr 3 (.t 5), [0, 1, 2, 3, 4, 5, 6, 7, 8, 9, 10], none⟩,
    ⟨none, .store 1 (.t 42) (.t 41), [11, 10, 10, 0, 1, 2, 3, 4, 5, 6, 7, 8, 9, 10], none⟩] [] [30, 31, 32, 33, 34, 35, 36, 37, 38, 39, 40, 41, 42])
  .skip))
 (.seq (.region [⟨(some 43), .mov (.t 6), [], none⟩,
   ⟨(some 44), .bin .gtr (.t 43) (.c (.int .i64 0)), [0], none⟩] [] [30, 43])
 (.cond (.t 44)
  (.region [⟨(some 45), .faddr 3 (.t 5), [], none⟩,
    ⟨(some 46), .load none (.t 45), [0], none⟩,
    ⟨(some 47), .mov (.t 6), [], none⟩,
    ⟨(some 48), .mov (.t 0), [], none⟩,
    ⟨(some 49), .bin .mul (.c (.int .i64 2)) (.t 48), [3], none⟩,
    ⟨(some 50), .bin .add (.t 49) (.c (.int .i64 2)), [4], none⟩,
    ⟨(some 51), .mov (.t 6), [], none⟩,
    ⟨(some 52), .bin .sub (.t 51) (.c (.int .i64 1)), [6], none⟩,
    ⟨(some 53), .build [(.int .i64 0), (.int .i64 0), (.int .i64 0)] [(0, 1, (.t 47)), (1, 1, (.t 50)), (2, 1, (.t 52))], [2, 5, 7], none⟩,
    ⟨(some 54), .bslice false .dyn 3 1 [(.int .i64 0), (.int .i64 0), (.int .i64 0)] [(0, 3, (.t 53))], [8], none⟩,
    ⟨(some 55), .append .dyn 3 24 (.t 46) (.t 54), [1, 9], none⟩,
    ⟨(some 56), .faddr 3 (.t 5), [0, 1, 2, 3, 4, 5, 6, 7, 8, 9, 10], none⟩,
    ⟨none, .store 1 (.t 56) (.t 55), [11, 10, 10, 0, 1, 2, 3, 4, 5, 6, 7, 8, 9, 10], none⟩] [] [6, 44, 45, 46, 47, 48, 49, 50, 51, 52, 53, 54, 55, 56])
  .skip))))))
 (.region [⟨(some 57), .bin .add (.t 19) (.c (.int .i64 1)), [], none⟩,
   ⟨(some 19), .mov (.t 57), [0], none⟩] [] [6, 44, 57])))))))
 (.seq (.region [⟨(some 58), .mov (.t 0), [], none⟩,
   ⟨(some 59), .call .borrow (.f 60) [(.t 58)], [0], none⟩,
   ⟨(some 60), .bin .add (.c (.str [98, 117, 102, 102, 101, 114])) (.t 59), [1], none⟩,
   ⟨(some 61), .load (some 4) (.t 5), [], none⟩,
   ⟨(some 62), .build [(.str []), .nilsl, (.int .i64 0), .nilsl, .nilsl] [(0, 1, (.t 60)), (1, 4, (.t 61))], [2, 3], none⟩,
   ⟨none, .store 5 (.t 4) (.t 62), [4, 1, 0, 1, 2, 3, 4], none⟩] [] [0, 1, 5, 18, 19, 58, 59, 60, 61, 62])
 .ret))))⟩

-- overseer/catalogue.dining
def s34 : SFn := ⟨130, [.cell 2 (some 5)],
 (.seq (.region [⟨(some 2), .alloc .dyn (.agg [.nilsl, .nilsl, .nilsl, .nilsl, .nilsl]), [], none⟩] [] [])
 (.seq (.region [⟨(some 14), .mov (.t 0), [], none⟩,
   ⟨(some 15), .bslice false .dyn 1 3 [(.str []), (.str []), (.str [])] [(0, 1, (.c (.str [108, 101, 102, 116]))), (1, 1, (.c (.str [114, 105, 103, 104, 116]))), (2, 1, (.c (.str [112, 117, 116])))], [], none⟩,
   ⟨(some 16), .call .heap (.f 58) [(.t 14), (.t 15)], [0, 1], none⟩,
   ⟨(some 17), .build [.nilsl, .nilsl, .nilsl, .nilsl, .nilsl] [(0, 1, (.t 16))], [2], none⟩,
   ⟨(some 3), .alloc .dyn (.agg [.nilsl, .nilsl, .nilsl, .nilsl, .nilsl]), [], none⟩,
   ⟨none, .store 5 (.t 3) (.t 17), [4, 3, 2, 0, 1, 2, 3, 4], none⟩] [] [14, 15, 16, 17])
 (.seq (.seq (.region [⟨(some 18), .mov (.t 0), [], none⟩,
   ⟨(some 19), .mov (.c (.int .i64 0)), [], none⟩] [] [])
 (.block 0 (.loop (.seq (.region [⟨(some 20), .bin .lss (.t 19) (.t 18), [], none⟩] [] [])
 (.seq (.cond (.t 20)
  .skip
  (.exit 0))
 (.seq (.block 1 (.seq (.region [⟨(some 21), .mov (.t 19), [], none⟩,
   ⟨(some 4), .mov (.t 21), [0, 0], none⟩] [] [20, 21])
 (.seq (.region [⟨(some 22), .mov (.t 4), [], none⟩,
   ⟨(some 23), .bin .mul (.c (.int .i64 3)) (.t 22), [0], none⟩,
   ⟨(some 24), .mov (.t 4), [], none⟩,
   ⟨(some 25), .bin .mul (.c (.int .i64 3)) (.t 24), [2], none⟩,
   ⟨(some 26), .bin .add (.t 25) (.c (.int .i64 1)), [3], none⟩,
   ⟨(some 27), .mov (.t 4), [], none⟩,
   ⟨(some 28), .bin .mul (.c (.int .i64 3)) (.t 27), [5], none⟩,
   ⟨(some 29), .bin .add (.t 28) (.c (.int .i64 2)), [6], none⟩,
   ⟨(some 30), .bslice false .dyn 1 3 [(.int .i64 0), (.int .i64 0), (.int .i64 0)] [(0, 1, (.t 23)), (1, 1, (.t 26)), (2, 1, (.t 29))], [1, 4, 7], none⟩,
   ⟨(some 31), .bslice false .dyn 1 1 [(.int .i64 0)] [(0, 1, (.c (.int .i64 0)))], [], none⟩,
   ⟨(some 32), .build [.nilsl, (.int .i64 0), .nilsl, .nilsl] [(0, 1, (.t 30)), (1, 1, (.c (.int .i64 3))), (2, 1, (.t 31))], [8, 9], none⟩,
   ⟨(some 5), .alloc .dyn (.agg [.nilsl, (.int .i64 0), .nilsl, .nilsl]), [], none⟩,
   ⟨none, .store 4 (.t 5) (.t 32), [11, 10, 0, 1, 2, 3, 4, 5, 6, 7, 8, 9, 10, 11], none⟩] [] [22, 23, 24, 25, 26, 27, 28, 29, 30, 31, 32])
 (.seq (.seq (.region [⟨(some 33), .mov (.c (.int .i64 0)), [], none⟩] [] [])
 (.block 2 (.loop (.seq (.region [⟨(some 34), .bin .lss (.t 33) (.c (.int .i64 3)), [], none⟩] [] [])
 (.seq (.cond (.t 34)
  .skip
  (.exit 2))
 (.seq (.block 3 (.seq (.region [⟨(some 35), .mov (.t 33), [], none⟩,
   ⟨(some 6), .mov (.t 35), [0, 0], none⟩] [] [34, 35])
 (.region [⟨(some 36), .faddr 3 (.t 5), [], none⟩,
   ⟨(some 37), .load none (.t 36), [0], none⟩,
   ⟨(some 38), .mov (.t 6), [], none⟩,
   ⟨(some 39), .mov (.t 4), [], none⟩,
   ⟨(some 40), .bin .mul (.c (.int .i64 3)) (.t 39), [3], none⟩,
   ⟨(some 41), .mov (.t 6), [], none⟩,
   ⟨(some 42), .bin .add (.t 40) (.t 41), [4, 5], none⟩,
   ⟨(some 43), .mov (.t 6), [], none⟩,
   ⟨(some 44), .bin .add (.t 43) (.c (.int .i64 1)), [7], none⟩,
   ⟨(some 45), .bin .rem (.t 44) (.c (.int .i64 3)), [8], none⟩,
   ⟨(some 46), .build [(.int .i64 0), (.int .i64 0), (.int .i64 0)] [(0, 1, (.t 38)), (1, 1, (.t 42)), (2, 1, (.t 45))], [2, 6, 9], none⟩,
   ⟨(some 47), .bslice false .dyn 3 1 [(.int .i64 0), (.int .i64 0), (.int .i64 0)] [(0, 3, (.t 46))], [10], none⟩,
   ⟨(some 48), .append .dyn 3 24 (.t 37) (.t 47), [1, 11], none⟩,
   ⟨(some 49), .faddr 3 (.t 5), [0, 1, 2, 3, 4, 5, 6, 7, 8, 9, 10, 11, 12], none⟩,
   ⟨none, .store 1 (.t 49) (.t 48), [13, 12, 12, 0, 1, 2, 3, 4, 5, 6, 7, 8, 9, 10, 11, 12], none⟩] [] [6, 36, 37, 38, 39, 40, 41, 42, 43, 44, 45, 46, 47, 48, 49])))
 (.region [⟨(some 50), .bin .add (.t 33) (.c (.int .i64 1)), [], none⟩,
   ⟨(some 33), .mov (.t 50), [0], none⟩] [] [50])))))))
 (.region [⟨(some 51), .faddr 1 (.t 3), [], none⟩,
   ⟨(some 52), .load none (.t 51), [0], none⟩,
   ⟨(some 53), .mov (.t 4), [], none⟩,
   ⟨(some 54), .call .borrow (.f 60) [(.t 53)], [2], none⟩,
   ⟨(some 55), .bin .add (.c (.str [112, 104, 105, 108, 111, 115, 111, 112, 104, 101, 114])) (.t 54), [3], none⟩,
   ⟨(some 56), .load (some 4) (.t 5), [], none⟩,
   ⟨(some 57), .build [(.str []), .nilsl, (.int .i64 0), .nilsl, .nilsl] [(0, 1, (.t 55)), (1, 4, (.t 56))], [4, 5], none⟩,
   ⟨(some 58), .bslice false .dyn 5 1 [(.str []), .nilsl, (.int .i64 0), .nilsl, .nilsl] [(0, 5, (.t 57))], [6], none⟩,
   ⟨(some 59), .append .dyn 5 96 (.t 52) (.t 58), [1, 7, 3], none⟩,
   ⟨(some 60), .faddr 1 (.t 3), [0, 1, 2, 3, 4, 5, 6, 7, 8], none⟩,
   ⟨none, .store 1 (.t 60) (.t 59), [9, 8, 8, 0, 1, 2, 3, 4, 5, 6, 7, 8], none⟩] [(1, 7)] [4, 5, 33, 51, 52, 53, 54, 55, 56, 57, 58, 59, 60])))))
 (.region [⟨(some 61), .bin .add (.t 19) (.c (.int .i64 1)), [], none⟩,
   ⟨(some 19), .mov (.t 61), [0], none⟩] [] [61])))))))
 (.seq (.seq (.region [⟨(some 62), .mov (.t 0), [], none⟩,
   ⟨(some 63), .mov (.c (.int .i64 0)), [], none⟩] [] [18, 19])
 (.block 4 (.loop (.seq (.region [⟨(some 64), .bin .lss (.t 63) (.t 62), [], none⟩] [] [])
 (.seq (.cond (.t 64)
  .skip
  (.exit 4))
 (.seq (.block 5 (.seq (.region [⟨(some 65), .mov (.t 63), [], none⟩,
   ⟨(some 7), .mov (.t 65), [0, 0], none⟩] [] [64, 65])
 (.seq (.region [⟨(some 66), .mov (.t 7), [], none⟩,
   ⟨(some 67), .mov (.t 0), [], none⟩,
   ⟨(some 68), .bin .add (.t 66) (.t 67), [0, 1], none⟩,
   ⟨(some 69), .bin .sub (.t 68) (.c (.int .i64 1)), [2], none⟩,
   ⟨(some 70), .mov (.t 0), [], none⟩,
   ⟨(some 71), .bin .rem (.t 69) (.t 70), [3, 4], none⟩,
   ⟨(some 8), .mov (.t 71), [5, 0, 1, 2, 3, 4, 5], none⟩] [] [66, 67, 68, 69, 70, 71])
 (.seq (.region [⟨(some 72), .mov (.t 7), [], none⟩,
   ⟨(some 73), .bin .mul (.c (.int .i64 3)) (.t 72), [0], none⟩,
   ⟨(some 74), .mov (.t 7), [], none⟩,
   ⟨(some 75), .bin .mul (.c (.int .i64 3)) (.t 74), [2], none⟩,
   ⟨(some 76), .bin .add (.t 75) (.c (.int .i64 2)), [3], none⟩,
   ⟨(some 77), .mov (.t 8), [], none⟩,
   ⟨(some 78), .bin .mul (.c (.int .i64 3)) (.t 77), [5], none⟩,
   ⟨(some 79), .bin .add (.t 78) (.c (.int .i64 1)), [6], none⟩,
   ⟨(some 80), .mov (.t 8), [], none⟩,
   ⟨(some 81), .bin .mul (.c (.int .i64 3)) (.t 80), [8], none⟩,
   ⟨(some 82), .bin .add (.t 81) (.c (.int .i64 2)), [9], none⟩,
   ⟨(some 83), .bslice false .dyn 1 4 [(.int .i64 0), (.int .i64 0), (.int .i64 0), (.int .i64 0)] [(0, 1, (.t 73)), (1, 1, (.t 76)), (2, 1, (.t 79)), (3, 1, (.t 82))], [1, 4, 7, 10], none⟩,
   ⟨(some 84), .bslice false .dyn 1 1 [(.int .i64 0)] [(0, 1, (.c (.int .i64 0)))], [], none⟩,
   ⟨(some 85), .build [.nilsl, (.int .i64 0), .nilsl, .nilsl] [(0, 1, (.t 83)), (1, 1, (.c (.int .i64 2))), (2, 1, (.t 84))], [11, 12], none⟩,
   ⟨(some 9), .alloc .dyn (.agg [.nilsl, (.int .i64 0), .nilsl, .nilsl]), [], none⟩,
   ⟨none, .store 4 (.t 9) (.t 85), [14, 13, 0, 1, 2, 3, 4, 5, 6, 7, 8, 9, 10, 11, 12, 13, 14], none⟩] [] [8, 72, 73, 74, 75, 76, 77, 78, 79, 80, 81, 82, 83, 84, 85])
 (.seq (.region [⟨(some 86), .faddr 0 (.t 9), [], none⟩,
   ⟨(some 87), .load none (.t 86), [0], none⟩,
   ⟨(some 88), .call .heap (.f 61) [(.t 87)], [1], none⟩] [] [86, 87, 88])
 (.seq (.seq (.region [⟨(some 89), .mov (.c (.int .i64 0)), [], none⟩] [] [])
 (.block 6 (.loop (.seq (.region [⟨(some 90), .bin .lss (.t 89) (.c (.int .i64 2)), [], none⟩] [] [])
 (.seq (.cond (.t 90)
  .skip
  (.exit 6))
 (.seq (.block 7 (.seq (.region [⟨(some 91), .mov (.t 89), [], none⟩,
   ⟨(some 10), .mov (.t 91), [0, 0], none⟩] [] [90, 91])
 (.seq (.region [⟨(some 92), .faddr 0 (.t 9), [], none⟩,
   ⟨(some 93), .load none (.t 92), [0], none⟩,
   ⟨(some 94), .len 1 (.t 93), [1], none⟩,
   ⟨(some 95), .mov (.c (.int .i64 0)), [], none⟩] [] [92])
 (.block 8 (.loop (.seq (.region [⟨(some 96), .bin .lss (.t 95) (.t 94), [], none⟩] [] [])
 (.seq (.cond (.t 96)
  .skip
  (.exit 8))
 (.seq (.block 9 (.seq (.region [⟨(some 97), .iaddr none 1 (.t 93) (.t 95), [], none⟩,
   ⟨(some 98), .load none (.t 97), [0], none⟩,
   ⟨(some 12), .mov (.t 98), [1, 0, 1], none⟩] [] [96, 97, 98])
 (.seq (.region [⟨(some 99), .mov (.t 12), [], none⟩,
   ⟨(some 100), .bin .rem (.t 99) (.c (.int .i64 3)), [0], none⟩,
   ⟨(some 101), .bin .eql (.t 100) (.c (.int .i64 2)), [1], none⟩,
   ⟨(some 13), .mov (.t 101), [2, 0, 1, 2], none⟩] [] [99, 100, 101])
 (.seq (.region [⟨(some 102), .mov (.t 13), [], none⟩,
   ⟨(some 103), .mov (.t 10), [], none⟩,
   ⟨(some 104), .bin .eql (.t 103) (.c (.int .i64 1)), [1], none⟩,
   ⟨(some 105), .eq (.flat false [.b]) false (.t 102) (.t 104), [0, 2], none⟩] [] [13, 102, 103, 104])
 (.cond (.t 105)
  (.region [⟨(some 106), .faddr 3 (.t 9), [], none⟩,
    ⟨(some 107), .load none (.t 106), [0], none⟩,
    ⟨(some 108), .mov (.t 10), [], none⟩,
    ⟨(some 109), .mov (.t 12), [], none⟩,
    ⟨(some 110), .mov (.t 10), [], none⟩,
    ⟨(some 111), .bin .sub (.c (.int .i64 1)) (.t 110), [4], none⟩,
    ⟨(some 112), .build [(.int .i64 0), (.int .i64 0), (.int .i64 0)] [(0, 1, (.t 108)), (1, 1, (.t 109)), (2, 1, (.t 111))], [2, 3, 5], none⟩,
    ⟨(some 113), .bslice false .dyn 3 1 [(.int .i64 0), (.int .i64 0), (.int .i64 0)] [(0, 3, (.t 112))], [6], none⟩,
    ⟨(some 114), .append .dyn 3 24 (.t 107) (.t 113), [1, 7], none⟩,
    ⟨(some 115), .faddr 3 (.t 9), [0, 1, 2, 3, 4, 5, 6, 7, 8], none⟩,
    ⟨none, .store 1 (.t 115) (.t 114), [9, 8, 8, 0, 1, 2, 3, 4, 5, 6, 7, 8], none⟩] [] [12, 105, 106, 107, 108, 109, 110, 111, 112, 113, 114, 115])
  .skip)))))
 (.region [⟨(some 116), .bin .add (.t 95) (.c (.int .i64 1)), [], none⟩,
   ⟨(some 95), .mov (.t 116), [0], none⟩] [] [12, 105, 116])))))))))
 (.region [⟨(some 117), .bin .add (.t 89) (.c (.int .i64 1)), [], none⟩,
   ⟨(some 89), .mov (.t 117), [0], none⟩] [] [10, 93, 94, 95, 117])))))))
 (.region [⟨(some 118), .faddr 1 (.t 3), [], none⟩,
   ⟨(some 119), .load none (.t 118), [0], none⟩,
   ⟨(some 120), .mov (.t 7), [], none⟩,
   ⟨(some 121), .call .borrow (.f 60) [(.t 120)], [2], none⟩,
   ⟨(some 122), .bin .add (.c (.str [102, 111, 114, 107])) (.t 121), [3], none⟩,
   ⟨(some 123), .load (some 4) (.t 9), [], none⟩,
   ⟨(some 124), .build [(.str []), .nilsl, (.int .i64 0), .nilsl, .nilsl] [(0, 1, (.t 122)), (1, 4, (.t 123))], [4, 5], none⟩,
   ⟨(some 125), .bslice false .dyn 5 1 [(.str []), .nilsl, (.int .i64 0), .nilsl, .nilsl] [(0, 5, (.t 124))], [6], none⟩,
   ⟨(some 126), .append .dyn 5 96 (.t 119) (.t 125), [1, 7, 3], none⟩,
   ⟨(some 127), .faddr 1 (.t 3), [0, 1, 2, 3, 4, 5, 6, 7, 8], none⟩,
   ⟨none, .store 1 (.t 127) (.t 126), [9, 8, 8, 0, 1, 2, 3, 4, 5, 6, 7, 8], none⟩] [(1, 7)] [7, 9, 89, 118, 119, 120, 121, 122, 123, 124, 125, 126, 127])))))))
 (.region [⟨(some 128), .bin .add (.t 63) (.c (.int .i64 1)), [], none⟩,
   ⟨(some 63), .mov (.t 128), [0], none⟩] [] [128])))))))
 (.seq (.region [⟨(some 129), .load (some 5) (.t 3), [], none⟩,
   ⟨none, .store 5 (.t 2) (.t 129), [0, 0], none⟩] [] [0, 3, 62, 63, 129])
 .ret)))))⟩

-- overseer/catalogue.zone
def s35 : SFn := ⟨34, [.cell 2 (some 5)],
 (.seq (.region [⟨(some 2), .alloc .dyn (.agg [.nilsl, .nilsl, .nilsl, .nilsl, .nilsl]), [], none⟩] [] [])
 (.seq (.region [⟨(some 6), .mov (.t 0), [], none⟩,
   ⟨(some 7), .bslice false .dyn 1 2 [(.str []), (.str [])] [(0, 1, (.c (.str [101, 110, 116, 101, 114]))), (1, 1, (.c (.str [108, 101, 97, 118, 101])))], [], none⟩,
   ⟨(some 8), .call .heap (.f 58) [(.t 6), (.t 7)], [0, 1], none⟩,
   ⟨(some 9), .build [.nilsl, .nilsl, .nilsl, .nilsl, .nilsl] [(0, 1, (.t 8))], [2], none⟩,
   ⟨(some 3), .alloc .dyn (.agg [.nilsl, .nilsl, .nilsl, .nilsl, .nilsl]), [], none⟩,
   ⟨none, .store 5 (.t 3) (.t 9), [4, 3, 2, 0, 1, 2, 3, 4], none⟩] [] [6, 7, 8, 9])
 (.seq (.region [⟨(some 10), .build [(.str []), .nilsl, (.int .i64 0)] [(0, 1, (.c (.str [122, 111, 110, 101]))), (2, 1, (.c (.int .i64 1)))], [], none⟩,
   ⟨(some 4), .alloc .dyn (.agg [(.str []), .nilsl, (.int .i64 0)]), [], none⟩,
   ⟨none, .store 3 (.t 4) (.t 10), [1, 0, 0, 1], none⟩] [] [10])
 (.seq (.seq (.region [⟨(some 11), .mov (.t 0), [], none⟩,
   ⟨(some 12), .mov (.c (.int .i64 0)), [], none⟩] [] [0])
 (.block 0 (.loop (.seq (.region [⟨(some 13), .bin .lss (.t 12) (.t 11), [], none⟩] [] [])
 (.seq (.cond (.t 13)
  .skip
  (.exit 0))
 (.seq (.block 1 (.seq (.region [⟨(some 14), .mov (.t 12), [], none⟩,
   ⟨(some 5), .mov (.t 14), [0, 0], none⟩] [] [13, 14])
 (.seq (.region [⟨(some 15), .faddr 1 (.t 3), [], none⟩,
   ⟨(some 16), .load none (.t 15), [0], none⟩,
   ⟨(some 17), .mov (.t 5), [], none⟩,
   ⟨(some 18), .call .pure (.f 59) [(.c (.str [118, 101, 104, 105, 99, 108, 101])), (.t 17)], [2], none⟩,
   ⟨(some 19), .bslice false .dyn 5 1 [(.str []), .nilsl, (.int .i64 0), .nilsl, .nilsl] [(0, 5, (.t 18))], [3], none⟩,
   ⟨(some 20), .append .dyn 5 96 (.t 16) (.t 19), [1, 4, 3], none⟩,
   ⟨(some 21), .faddr 1 (.t 3), [0, 1, 2, 3, 4, 5], none⟩,
   ⟨none, .store 1 (.t 21) (.t 20), [6, 5, 5, 0, 1, 2, 3, 4, 5], none⟩] [(1, 4)] [15, 16, 17, 18, 19, 20, 21])
 (.region [⟨(some 22), .faddr 1 (.t 4), [], none⟩,
   ⟨(some 23), .load none (.t 22), [0], none⟩,
   ⟨(some 24), .mov (.t 5), [], none⟩,
   ⟨(some 25), .build [(.int .i64 0), (.int .i64 0)] [(0, 1, (.t 24)), (1, 1, (.c (.int .i64 1)))], [2], none⟩,
   ⟨(some 26), .bslice false .dyn 2 1 [(.int .i64 0), (.int .i64 0)] [(0, 2, (.t 25))], [3], none⟩,
   ⟨(some 27), .append .dyn 2 16 (.t 23) (.t 26), [1, 4], none⟩,
   ⟨(some 28), .faddr 1 (.t 4), [0, 1, 2, 3, 4, 5], none⟩,
   ⟨none, .store 1 (.t 28) (.t 27), [6, 5, 5, 0, 1, 2, 3, 4, 5], none⟩] [] [5, 22, 23, 24, 25, 26, 27, 28]))))
 (.region [⟨(some 29), .bin .add (.t 12) (.c (.int .i64 1)), [], none⟩,
   ⟨(some 12), .mov (.t 29), [0], none⟩] [] [29])))))))
 (.seq (.region [⟨(some 30), .load (some 3) (.t 4), [], none⟩,
   ⟨(some 31), .bslice false .dyn 3 1 [(.str []), .nilsl, (.int .i64 0)] [(0, 3, (.t 30))], [0], none⟩,
   ⟨(some 32), .faddr 4 (.t 3), [0, 1], none⟩,
   ⟨none, .store 1 (.t 32) (.t 31), [2, 1, 0, 1], none⟩] [] [4, 11, 12, 30, 31, 32])
 (.seq (.region [⟨(some 33), .load (some 5) (.t 3), [], none⟩,
   ⟨none, .store 5 (.t 2) (.t 33), [0, 0], none⟩] [] [3, 33])
 .ret))))))⟩

-- overseer/catalogue.alternate
def s36 : SFn := ⟨41, [.cell 2 (some 5)],
 (.seq (.region [⟨(some 2), .alloc .dyn (.agg [.nilsl, .nilsl, .nilsl, .nilsl, .nilsl]), [], none⟩] [] [])
 (.seq (.region [⟨(some 6), .mov (.t 0), [], none⟩,
   ⟨(some 7), .call .heap (.f 32) [(.t 6)], [0], none⟩,
   ⟨(some 3), .alloc .dyn (.agg [.nilsl, .nilsl, .nilsl, .nilsl, .nilsl]), [], none⟩,
   ⟨none, .store 5 (.t 3) (.t 7), [2, 1, 1, 0, 1, 2], none⟩] [] [6, 7])
 (.seq (.region [⟨(some 8), .mov (.t 0), [], none⟩,
   ⟨(some 9), .bslice false .dyn 1 1 [(.int .i64 0)] [(0, 1, (.c (.int .i64 0)))], [], none⟩,
   ⟨(some 10), .build [.nilsl, (.int .i64 0), .nilsl, .nilsl] [(1, 1, (.t 8)), (2, 1, (.t 9))], [0, 1], none⟩,
   ⟨(some 4), .alloc .dyn (.agg [.nilsl, (.int .i64 0), .nilsl, .nilsl]), [], none⟩,
   ⟨none, .store 4 (.t 4) (.t 10), [3, 2, 0, 1, 2, 3], none⟩] [] [8, 9, 10])
 (.seq (.seq (.region [⟨(some 11), .mov (.t 0), [], none⟩,
   ⟨(some 12), .mov (.c (.int .i64 0)), [], none⟩] [] [])
 (.block 0 (.loop (.seq (.region [⟨(some 13), .bin .lss (.t 12) (.t 11), [], none⟩] [] [])
 (.seq (.cond (.t 13)
  .skip
  (.exit 0))
 (.seq (.block 1 (.seq (.region [⟨(some 14), .mov (.t 12), [], none⟩,
   ⟨(some 5), .mov (.t 14), [0, 0], none⟩] [] [13, 14])
 (.seq (.region [⟨(some 15), .faddr 0 (.t 4), [], none⟩,
   ⟨(some 16), .load none (.t 15), [0], none⟩,
   ⟨(some 17), .mov (.t 5), [], none⟩,
   ⟨(some 18), .bin .mul (.c (.int .i64 2)) (.t 17), [2], none⟩,
   ⟨(some 19), .bslice false .dyn 1 1 [(.int .i64 0)] [(0, 1, (.t 18))], [3], none⟩,
   ⟨(some 20), .append .dyn 1 8 (.t 16) (.t 19), [1, 4], none⟩,
   ⟨(some 21), .faddr 0 (.t 4), [0, 1, 2, 3, 4, 5], none⟩,
   ⟨none, .store 1 (.t 21) (.t 20), [6, 5, 5, 0, 1, 2, 3, 4, 5], none⟩] [] [15, 16, 17, 18, 19, 20, 21])
 (.region [⟨(some 22), .faddr 3 (.t 4), [], none⟩,
   ⟨(some 23), .load none (.t 22), [0], none⟩,
   ⟨(some 24), .mov (.t 5), [], none⟩,
   ⟨(some 25), .mov (.t 5), [], none⟩,
   ⟨(some 26), .bin .mul (.c (.int .i64 2)) (.t 25), [3], none⟩,
   ⟨(some 27), .mov (.t 5), [], none⟩,
   ⟨(some 28), .bin .add (.t 27) (.c (.int .i64 1)), [5], none⟩,
   ⟨(some 29), .mov (.t 0), [], none⟩,
   ⟨(some 30), .bin .rem (.t 28) (.t 29), [6, 7], none⟩,
   ⟨(some 31), .build [(.int .i64 0), (.int .i64 0), (.int .i64 0)] [(0, 1, (.t 24)), (1, 1, (.t 26)), (2, 1, (.t 30))], [2, 4, 8], none⟩,
   ⟨(some 32), .bslice false .dyn 3 1 [(.int .i64 0), (.int .i64 0), (.int .i64 0)] [(0, 3, (.t 31))], [9], none⟩,
   ⟨(some 33), .append .dyn 3 24 (.t 23) (.t 32), [1, 10], none⟩,
   ⟨(some 34), .faddr 3 (.t 4), [0, 1, 2, 3, 4, 5, 6, 7, 8, 9, 10, 11], none⟩,
   ⟨none, .store 1 (.t 34) (.t 33), [12, 11, 11, 0, 1, 2, 3, 4, 5, 6, 7, 8, 9, 10, 11], none⟩] [(1, 10)] [5, 22, 23, 24, 25, 26, 27, 28, 29, 30, 31, 32, 33, 34]))))
 (.region [⟨(some 35), .bin .add (.t 12) (.c (.int .i64 1)), [], none⟩,
   ⟨(some 12), .mov (.t 35), [0], none⟩] [] [35])))))))
 (.seq (.region [⟨(some 36), .load (some 4) (.t 4), [], none⟩,
   ⟨(some 37), .build [(.str []), .nilsl, (.int .i64 0), .nilsl, .nilsl] [(0, 1, (.c (.str [116, 117, 114, 110, 115]))), (1, 4, (.t 36))], [0], none⟩,
   ⟨(some 38), .bslice false .dyn 5 1 [(.str []), .nilsl, (.int .i64 0), .nilsl, .nilsl] [(0, 5, (.t 37))], [1], none⟩,
   ⟨(some 39), .faddr 2 (.t 3), [0, 1, 2], none⟩,
   ⟨none, .store 1 (.t 39) (.t 38), [3, 2, 0, 1, 2], none⟩] [] [0, 4, 11, 12, 36, 37, 38, 39])
 (.seq (.region [⟨(some 40), .load (some 5) (.t 3), [], none⟩,
   ⟨none, .store 5 (.t 2) (.t 40), [0, 0], none⟩] [] [3, 40])
 .ret))))))⟩

-- overseer/cell.Equal$1
def s37 : SFn := ⟨17, [.tmp 4],
 (.seq (.region [⟨(some 2), .box .dyn (.t 0), [], none⟩,
   ⟨(some 3), .box .dyn (.t 1), [], none⟩,
   ⟨(some 4), .mov (.c (.bool false)), [], none⟩] [] [0, 1, 4])
 (.seq (.region [⟨(some 5), .faddr 0 (.t 2), [], none⟩,
   ⟨(some 6), .load none (.t 5), [0], none⟩,
   ⟨(some 7), .faddr 0 (.t 3), [], none⟩,
   ⟨(some 8), .load none (.t 7), [2], none⟩,
   ⟨(some 9), .bin .eql (.t 6) (.t 8), [1, 3], none⟩,
   ⟨(some 10), .mov (.t 9), [4], none⟩,
   ⟨(some 11), .faddr 1 (.t 2), [5], (some (10, true))⟩,
   ⟨(some 12), .load (some 4) (.t 11), [6, 5], (some (10, true))⟩,
   ⟨(some 13), .faddr 1 (.t 3), [5], (some (10, true))⟩,
   ⟨(some 14), .load (some 4) (.t 13), [8, 5], (some (10, true))⟩,
   ⟨(some 15), .call .heap (.f 38) [(.t 12), (.t 14)], [7, 9, 5, 5], (some (10, true))⟩,
   ⟨(some 16), .pick (.t 10) (.t 15) (.c (.bool false)), [5, 10], none⟩,
   ⟨(some 4), .mov (.t 16), [11, 10, 0, 1, 2, 3, 4, 5, 6, 7, 8, 9, 10, 11], none⟩] [] [2, 3, 5, 6, 7, 8, 9, 10, 11, 12, 13, 14, 15, 16])
 .ret))⟩

-- overseer/automaton.Equal
def s38 : SFn := ⟨31, [.tmp 4],
 (.seq (.region [⟨(some 2), .box .dyn (.t 0), [], none⟩,
   ⟨(some 3), .box .dyn (.t 1), [], none⟩,
   ⟨(some 4), .mov (.c (.bool false)), [], none⟩] [] [0, 1, 4])
 (.seq (.region [⟨(some 5), .faddr 1 (.t 2), [], none⟩,
   ⟨(some 6), .load none (.t 5), [0], none⟩,
   ⟨(some 7), .faddr 1 (.t 3), [], none⟩,
   ⟨(some 8), .load none (.t 7), [2], none⟩,
   ⟨(some 9), .bin .eql (.t 6) (.t 8), [1, 3], none⟩,
   ⟨(some 10), .mov (.t 9), [4], none⟩,
   ⟨(some 11), .faddr 0 (.t 2), [5], (some (10, true))⟩,
   ⟨(some 12), .load none (.t 11), [6, 5], (some (10, true))⟩,
   ⟨(some 13), .faddr 0 (.t 3), [5], (some (10, true))⟩,
   ⟨(some 14), .load none (.t 13), [8, 5], (some (10, true))⟩,
   ⟨(some 15), .call .heap (.f 51) [(.t 12), (.t 14)], [7, 9, 5, 5], (some (10, true))⟩,
   ⟨(some 16), .pick (.t 10) (.t 15) (.c (.bool false)), [5, 10], none⟩,
   ⟨(some 17), .mov (.t 16), [11, 10], none⟩,
   ⟨(some 18), .faddr 2 (.t 2), [12], (some (17, true))⟩,
   ⟨(some 19), .load none (.t 18), [13, 12], (some (17, true))⟩,
   ⟨(some 20), .faddr 2 (.t 3), [12], (some (17, true))⟩,
   ⟨(some 21), .load none (.t 20), [15, 12], (some (17, true))⟩,
   ⟨(some 22), .call .heap (.f 51) [(.t 19), (.t 21)], [14, 16, 12, 12], (some (17, true))⟩,
   ⟨(some 23), .pick (.t 17) (.t 22) (.c (.bool false)), [12, 17], none⟩,
   ⟨(some 24), .mov (.t 23), [18, 17], none⟩,
   ⟨(some 25), .faddr 3 (.t 2), [19], (some (24, true))⟩,
   ⟨(some 26), .load none (.t 25), [20, 19], (some (24, true))⟩,
   ⟨(some 27), .faddr 3 (.t 3), [19], (some (24, true))⟩,
   ⟨(some 28), .load none (.t 27), [22, 19], (some (24, true))⟩,
   ⟨(some 29), .call .heap (.f 62) [(.t 26), (.t 28)], [21, 23, 19, 19], (some (24, true))⟩,
   ⟨(some 30), .pick (.t 24) (.t 29) (.c (.bool false)), [19, 24], none⟩,
   ⟨(some 4), .mov (.t 30), [25, 24, 0, 1, 2, 3, 4, 5, 6, 7, 8, 9, 10, 11, 12, 13, 14, 15, 16, 17, 18, 19, 20, 21, 22, 23, 24, 25], none⟩] [] [2, 3, 5, 6, 7, 8, 9, 10, 11, 12, 13, 14, 15, 16, 17, 18, 19, 20, 21, 22, 23, 24, 25, 26, 27, 28, 29, 30])
 .ret))⟩

-- slices.Equal[[]overseer/api.Event,overseer/api.Event]
def s39 : SFn := ⟨26, [.tmp 4],
 (.seq (.region [⟨(some 4), .mov (.c (.bool false)), [], none⟩] [] [4])
 (.seq (.seq (.region [⟨(some 6), .mov (.t 0), [], none⟩,
   ⟨(some 7), .len 1 (.t 6), [0], none⟩,
   ⟨(some 8), .mov (.t 1), [], none⟩,
   ⟨(some 9), .len 1 (.t 8), [2], none⟩,
   ⟨(some 10), .bin .neq (.t 7) (.t 9), [1, 3], none⟩] [] [6, 7, 8, 9])
 (.cond (.t 10)
  (.seq (.region [⟨(some 4), .mov (.c (.bool false)), [], none⟩] [] [0, 1, 10])
  .ret)
  .skip))
 (.seq (.seq (.region [⟨(some 11), .mov (.t 0), [], none⟩,
   ⟨(some 12), .len 1 (.t 11), [0], none⟩,
   ⟨(some 13), .mov (.c (.int .i64 0)), [], none⟩] [] [4, 10, 11])
 (.block 0 (.loop (.seq (.region [⟨(some 14), .bin .lss (.t 13) (.t 12), [], none⟩] [] [])
 (.seq (.cond (.t 14)
  .skip
  (.exit 0))
 (.seq (.block 1 (.seq (.region [⟨(some 15), .mov (.t 13), [], none⟩,
   ⟨(some 5), .mov (.t 15), [0, 0], none⟩] [] [14, 15])
 (.seq (.region [⟨(some 16), .mov (.t 0), [], none⟩,
   ⟨(some 17), .mov (.t 5), [], none⟩,
   ⟨(some 18), .iaddr none 5 (.t 16) (.t 17), [0, 1], none⟩,
   ⟨(some 19), .load (some 5) (.t 18), [2], none⟩,
   ⟨(some 20), .mov (.t 1), [], none⟩,
   ⟨(some 21), .mov (.t 5), [], none⟩,
   ⟨(some 22), .iaddr none 5 (.t 20) (.t 21), [4, 5], none⟩,
   ⟨(some 23), .load (some 5) (.t 22), [6], none⟩,
   ⟨(some 24), .eq (.flat true [.s, .b, .b, .b, .i]) true (.t 19) (.t 23), [3, 7], none⟩] [] [5, 16, 17, 18, 19, 20, 21, 22, 23])
 (.cond (.t 24)
  (.seq (.region [⟨(some 4), .mov (.c (.bool false)), [], none⟩] [] [0, 1, 12, 13, 24])
  .ret)
  .skip))))
 (.region [⟨(some 25), .bin .add (.t 13) (.c (.int .i64 1)), [], none⟩,
   ⟨(some 13), .mov (.t 25), [0], none⟩] [] [4, 24, 25])))))))
 (.seq (.region [⟨(some 4), .mov (.c (.bool true)), [], none⟩] [] [0, 1, 12, 13])
 .ret))))⟩

-- slices.EqualFunc[[]overseer/api.Item,[]overseer/api.Item,overseer/api.Item,overseer/api.Item]
def s40 : SFn := ⟨32, [.tmp 6],
 (.seq (.region [⟨(some 6), .mov (.c (.bool false)), [], none⟩] [] [6])
 (.seq (.seq (.region [⟨(some 10), .mov (.t 0), [], none⟩,
   ⟨(some 11), .len 1 (.t 10), [0], none⟩,
   ⟨(some 12), .mov (.t 1), [], none⟩,
   ⟨(some 13), .len 1 (.t 12), [2], none⟩,
   ⟨(some 14), .bin .neq (.t 11) (.t 13), [1, 3], none⟩] [] [10, 11, 12, 13])
 (.cond (.t 14)
  (.seq (.region [⟨(some 6), .mov (.c (.bool false)), [], none⟩] [] [0, 1, 2, 14])
  .ret)
  .skip))
 (.seq (.seq (.region [⟨(some 15), .mov (.t 0), [], none⟩,
   ⟨(some 16), .len 1 (.t 15), [0], none⟩,
   ⟨(some 17), .mov (.c (.int .i64 0)), [], none⟩] [] [6, 0, 14])
 (.block 0 (.loop (.seq (.region [⟨(some 18), .bin .lss (.t 17) (.t 16), [], none⟩] [] [])
 (.seq (.cond (.t 18)
  .skip
  (.exit 0))
 (.seq (.block 1 (.seq (.region [⟨(some 19), .mov (.t 17), [], none⟩,
   ⟨(some 20), .iaddr none 5 (.t 15) (.t 17), [], none⟩,
   ⟨(some 21), .load (some 5) (.t 20), [1], none⟩,
   ⟨(some 8), .alloc .dyn (.agg [(.str []), .nilsl, (.int .i64 0), .nilsl, .nilsl]), [], none⟩,
   ⟨(some 7), .mov (.t 19), [0, 0, 1, 2, 3], none⟩,
   ⟨none, .store 5 (.t 8) (.t 21), [3, 2, 4, 0, 1, 2, 3, 4], none⟩] [] [18, 19, 20, 21])
 (.seq (.region [⟨(some 22), .mov (.t 1), [], none⟩,
   ⟨(some 23), .mov (.t 7), [], none⟩,
   ⟨(some 24), .iaddr none 5 (.t 22) (.t 23), [0, 1], none⟩,
   ⟨(some 25), .load (some 5) (.t 24), [2], none⟩,
   ⟨(some 9), .alloc .dyn (.agg [(.str []), .nilsl, (.int .i64 0), .nilsl, .nilsl]), [], none⟩,
   ⟨none, .store 5 (.t 9) (.t 25), [4, 3, 0, 1, 2, 3, 4], none⟩] [] [7, 22, 23, 24, 25])
 (.seq (.region [⟨(some 26), .mov (.t 2), [], none⟩,
   ⟨(some 27), .load (some 5) (.t 8), [], none⟩,
   ⟨(some 28), .load (some 5) (.t 9), [], none⟩,
   ⟨(some 29), .call .heap (.t 26) [(.t 27), (.t 28)], [0, 1, 2], none⟩,
   ⟨(some 30), .un .not (.t 29), [3], none⟩] [] [8, 9, 26, 27, 28, 29])
 (.cond (.t 30)
  (.seq (.region [⟨(some 6), .mov (.c (.bool false)), [], none⟩] [] [1, 2, 15, 16, 17, 30])
  .ret)
  .skip)))))
 (.region [⟨(some 31), .bin .add (.t 17) (.c (.int .i64 1)), [], none⟩,
   ⟨(some 17), .mov (.t 31), [0], none⟩] [] [6, 30, 31])))))))
 (.seq (.region [⟨(some 6), .mov (.c (.bool true)), [], none⟩] [] [1, 2, 15, 16, 17])
 .ret))))⟩

-- slices.EqualFunc[[]overseer/api.Exclusion,[]overseer/api.Exclusion,overseer/api.Exclusion,overseer/api.Exclusion]
def s41 : SFn := ⟨32, [.tmp 6],
 (.seq (.region [⟨(some 6), .mov (.c (.bool false)), [], none⟩] [] [6])
 (.seq (.seq (.region [⟨(some 10), .mov (.t 0), [], none⟩,
   ⟨(some 11), .len 1 (.t 10), [0], none⟩,
   ⟨(some 12), .mov (.t 1), [], none⟩,
   ⟨(some 13), .len 1 (.t 12), [2], none⟩,
   ⟨(some 14), .bin .neq (.t 11) (.t 13), [1, 3], none⟩] [] [10, 11, 12, 13])
 (.cond (.t 14)
  (.seq (.region [⟨(some 6), .mov (.c (.bool false)), [], none⟩] [] [0, 1, 2, 14])
  .ret)
  .skip))
 (.seq (.seq (.region [⟨(some 15), .mov (.t 0), [], none⟩,
   ⟨(some 16), .len 1 (.t 15), [0], none⟩,
   ⟨(some 17), .mov (.c (.int .i64 0)), [], none⟩] [] [6, 0, 14])
 (.block 0 (.loop (.seq (.region [⟨(some 18), .bin .lss (.t 17) (.t 16), [], none⟩] [] [])
 (.seq (.cond (.t 18)
  .skip
  (.exit 0))
 (.seq (.block 1 (.seq (.region [⟨(some 19), .mov (.t 17), [], none⟩,
   ⟨(some 20), .iaddr none 2 (.t 15) (.t 17), [], none⟩,
   ⟨(some 21), .load (some 2) (.t 20), [1], none⟩,
   ⟨(some 8), .alloc .dyn (.agg [(.str []), .nilsl]), [], none⟩,
   ⟨(some 7), .mov (.t 19), [0, 0, 1, 2, 3], none⟩,
   ⟨none, .store 2 (.t 8) (.t 21), [3, 2, 4, 0, 1, 2, 3, 4], none⟩] [] [18, 19, 20, 21])
 (.seq (.region [⟨(some 22), .mov (.t 1), [], none⟩,
   ⟨(some 23), .mov (.t 7), [], none⟩,
   ⟨(some 24), .iaddr none 2 (.t 22) (.t 23), [0, 1], none⟩,
   ⟨(some 25), .load (some 2) (.t 24), [2], none⟩,
   ⟨(some 9), .alloc .dyn (.agg [(.str []), .nilsl]), [], none⟩,
   ⟨none, .store 2 (.t 9) (.t 25), [4, 3, 0, 1, 2, 3, 4], none⟩] [] [7, 22, 23, 24, 25])
 (.seq (.region [⟨(some 26), .mov (.t 2), [], none⟩,
   ⟨(some 27), .load (some 2) (.t 8), [], none⟩,
   ⟨(some 28), .load (some 2) (.t 9), [], none⟩,
   ⟨(some 29), .call .heap (.t 26) [(.t 27), (.t 28)], [0, 1, 2], none⟩,
   ⟨(some 30), .un .not (.t 29), [3], none⟩] [] [8, 9, 26, 27, 28, 29])
 (.cond (.t 30)
  (.seq (.region [⟨(some 6), .mov (.c (.bool false)), [], none⟩] [] [1, 2, 15, 16, 17, 30])
  .ret)
  .skip)))))
 (.region [⟨(some 31), .bin .add (.t 17) (.c (.int .i64 1)), [], none⟩,
   ⟨(some 17), .mov (.t 31), [0], none⟩] [] [6, 30, 31])))))))
 (.seq (.region [⟨(some 6), .mov (.c (.bool true)), [], none⟩] [] [1, 2, 15, 16, 17])
 .ret))))⟩

-- overseer/cell.Equal$2
def s42 : SFn := ⟨17, [.tmp 4],
 (.seq (.region [⟨(some 2), .box .dyn (.t 0), [], none⟩,
   ⟨(some 3), .box .dyn (.t 1), [], none⟩,
   ⟨(some 4), .mov (.c (.bool false)), [], none⟩] [] [0, 1, 4])
 (.seq (.region [⟨(some 5), .faddr 0 (.t 2), [], none⟩,
   ⟨(some 6), .load none (.t 5), [0], none⟩,
   ⟨(some 7), .faddr 0 (.t 3), [], none⟩,
   ⟨(some 8), .load none (.t 7), [2], none⟩,
   ⟨(some 9), .bin .eql (.t 6) (.t 8), [1, 3], none⟩,
   ⟨(some 10), .mov (.t 9), [4], none⟩,
   ⟨(some 11), .faddr 1 (.t 2), [5], (some (10, true))⟩,
   ⟨(some 12), .load none (.t 11), [6, 5], (some (10, true))⟩,
   ⟨(some 13), .faddr 1 (.t 3), [5], (some (10, true))⟩,
   ⟨(some 14), .load none (.t 13), [8, 5], (some (10, true))⟩,
   ⟨(some 15), .call .heap (.f 43) [(.t 12), (.t 14)], [7, 9, 5, 5], (some (10, true))⟩,
   ⟨(some 16), .pick (.t 10) (.t 15) (.c (.bool false)), [5, 10], none⟩,
   ⟨(some 4), .mov (.t 16), [11, 10, 0, 1, 2, 3, 4, 5, 6, 7, 8, 9, 10, 11], none⟩] [] [2, 3, 5, 6, 7, 8, 9, 10, 11, 12, 13, 14, 15, 16])
 .ret))⟩

-- slices.Equal[[]overseer/api.Local,overseer/api.Local]
def s43 : SFn := ⟨26, [.tmp 4],
 (.seq (.region [⟨(some 4), .mov (.c (.bool false)), [], none⟩] [] [4])
 (.seq (.seq (.region [⟨(some 6), .mov (.t 0), [], none⟩,
   ⟨(some 7), .len 1 (.t 6), [0], none⟩,
   ⟨(some 8), .mov (.t 1), [], none⟩,
   ⟨(some 9), .len 1 (.t 8), [2], none⟩,
   ⟨(some 10), .bin .neq (.t 7) (.t 9), [1, 3], none⟩] [] [6, 7, 8, 9])
 (.cond (.t 10)
  (.seq (.region [⟨(some 4), .mov (.c (.bool false)), [], none⟩] [] [0, 1, 10])
  .ret)
  .skip))
 (.seq (.seq (.region [⟨(some 11), .mov (.t 0), [], none⟩,
   ⟨(some 12), .len 1 (.t 11), [0], none⟩,
   ⟨(some 13), .mov (.c (.int .i64 0)), [], none⟩] [] [4, 10, 11])
 (.block 0 (.loop (.seq (.region [⟨(some 14), .bin .lss (.t 13) (.t 12), [], none⟩] [] [])
 (.seq (.cond (.t 14)
  .skip
  (.exit 0))
 (.seq (.block 1 (.seq (.region [⟨(some 15), .mov (.t 13), [], none⟩,
   ⟨(some 5), .mov (.t 15), [0, 0], none⟩] [] [14, 15])
 (.seq (.region [⟨(some 16), .mov (.t 0), [], none⟩,
   ⟨(some 17), .mov (.t 5), [], none⟩,
   ⟨(some 18), .iaddr none 2 (.t 16) (.t 17), [0, 1], none⟩,
   ⟨(some 19), .load (some 2) (.t 18), [2], none⟩,
   ⟨(some 20), .mov (.t 1), [], none⟩,
   ⟨(some 21), .mov (.t 5), [], none⟩,
   ⟨(some 22), .iaddr none 2 (.t 20) (.t 21), [4, 5], none⟩,
   ⟨(some 23), .load (some 2) (.t 22), [6], none⟩,
   ⟨(some 24), .eq (.flat true [.i, .i]) true (.t 19) (.t 23), [3, 7], none⟩] [] [5, 16, 17, 18, 19, 20, 21, 22, 23])
 (.cond (.t 24)
  (.seq (.region [⟨(some 4), .mov (.c (.bool false)), [], none⟩] [] [0, 1, 12, 13, 24])
  .ret)
  .skip))))
 (.region [⟨(some 25), .bin .add (.t 13) (.c (.int .i64 1)), [], none⟩,
   ⟨(some 13), .mov (.t 25), [0], none⟩] [] [4, 24, 25])))))))
 (.seq (.region [⟨(some 4), .mov (.c (.bool true)), [], none⟩] [] [0, 1, 12, 13])
 .ret))))⟩

-- slices.EqualFunc[[]overseer/api.Constraint,[]overseer/api.Constraint,overseer/api.Constraint,overseer/api.Constraint]
def s44 : SFn := ⟨32, [.tmp 6],
 (.seq (.region [⟨(some 6), .mov (.c (.bool false)), [], none⟩] [] [6])
 (.seq (.seq (.region [⟨(some 10), .mov (.t 0), [], none⟩,
   ⟨(some 11), .len 1 (.t 10), [0], none⟩,
   ⟨(some 12), .mov (.t 1), [], none⟩,
   ⟨(some 13), .len 1 (.t 12), [2], none⟩,
   ⟨(some 14), .bin .neq (.t 11) (.t 13), [1, 3], none⟩] [] [10, 11, 12, 13])
 (.cond (.t 14)
  (.seq (.region [⟨(some 6), .mov (.c (.bool false)), [], none⟩] [] [0, 1, 2, 14])
  .ret)
  .skip))
 (.seq (.seq (.region [⟨(some 15), .mov (.t 0), [], none⟩,
   ⟨(some 16), .len 1 (.t 15), [0], none⟩,
   ⟨(some 17), .mov (.c (.int .i64 0)), [], none⟩] [] [6, 0, 14])
 (.block 0 (.loop (.seq (.region [⟨(some 18), .bin .lss (.t 17) (.t 16), [], none⟩] [] [])
 (.seq (.cond (.t 18)
  .skip
  (.exit 0))
 (.seq (.block 1 (.seq (.region [⟨(some 19), .mov (.t 17), [], none⟩,
   ⟨(some 20), .iaddr none 3 (.t 15) (.t 17), [], none⟩,
   ⟨(some 21), .load (some 3) (.t 20), [1], none⟩,
   ⟨(some 8), .alloc .dyn (.agg [(.str []), .nilsl, (.int .i64 0)]), [], none⟩,
   ⟨(some 7), .mov (.t 19), [0, 0, 1, 2, 3], none⟩,
   ⟨none, .store 3 (.t 8) (.t 21), [3, 2, 4, 0, 1, 2, 3, 4], none⟩] [] [18, 19, 20, 21])
 (.seq (.region [⟨(some 22), .mov (.t 1), [], none⟩,
   ⟨(some 23), .mov (.t 7), [], none⟩,
   ⟨(some 24), .iaddr none 3 (.t 22) (.t 23), [0, 1], none⟩,
   ⟨(some 25), .load (some 3) (.t 24), [2], none⟩,
   ⟨(some 9), .alloc .dyn (.agg [(.str []), .nilsl, (.int .i64 0)]), [], none⟩,
   ⟨none, .store 3 (.t 9) (.t 25), [4, 3, 0, 1, 2, 3, 4], none⟩] [] [7, 22, 23, 24, 25])
 (.seq (.region [⟨(some 26), .mov (.t 2), [], none⟩,
   ⟨(some 27), .load (some 3) (.t 8), [], none⟩,
   ⟨(some 28), .load (some 3) (.t 9), [], none⟩,
   ⟨(some 29), .call .heap (.t 26) [(.t 27), (.t 28)], [0, 1, 2], none⟩,
   ⟨(some 30), .un .not (.t 29), [3], none⟩] [] [8, 9, 26, 27, 28, 29])
 (.cond (.t 30)
  (.seq (.region [⟨(some 6), .mov (.c (.bool false)), [], none⟩] [] [1, 2, 15, 16, 17, 30])
  .ret)
  .skip)))))
 (.region [⟨(some 31), .bin .add (.t 17) (.c (.int .i64 1)), [], none⟩,
   ⟨(some 17), .mov (.t 31), [0], none⟩] [] [6, 30, 31])))))))
 (.seq (.region [⟨(some 6), .mov (.c (.bool true)), [], none⟩] [] [1, 2, 15, 16, 17])
 .ret))))⟩

-- overseer/cell.Equal$3
def s45 : SFn := ⟨24, [.tmp 4],
 (.seq (.region [⟨(some 2), .box .dyn (.t 0), [], none⟩,
   ⟨(some 3), .box .dyn (.t 1), [], none⟩,
   ⟨(some 4), .mov (.c (.bool false)), [], none⟩] [] [0, 1, 4])
 (.seq (.region [⟨(some 5), .faddr 0 (.t 2), [], none⟩,
   ⟨(some 6), .load none (.t 5), [0], none⟩,
   ⟨(some 7), .faddr 0 (.t 3), [], none⟩,
   ⟨(some 8), .load none (.t 7), [2], none⟩,
   ⟨(some 9), .bin .eql (.t 6) (.t 8), [1, 3], none⟩,
   ⟨(some 10), .mov (.t 9), [4], none⟩,
   ⟨(some 11), .faddr 2 (.t 2), [5], (some (10, true))⟩,
   ⟨(some 12), .load none (.t 11), [6, 5], (some (10, true))⟩,
   ⟨(some 13), .faddr 2 (.t 3), [5], (some (10, true))⟩,
   ⟨(some 14), .load none (.t 13), [8, 5], (some (10, true))⟩,
   ⟨(some 15), .bin .eql (.t 12) (.t 14), [7, 9, 5], (some (10, true))⟩,
   ⟨(some 16), .pick (.t 10) (.t 15) (.c (.bool false)), [5, 10], none⟩,
   ⟨(some 17), .mov (.t 16), [11, 5], none⟩,
   ⟨(some 18), .faddr 1 (.t 2), [12], (some (17, true))⟩,
   ⟨(some 19), .load none (.t 18), [13, 12], (some (17, true))⟩,
   ⟨(some 20), .faddr 1 (.t 3), [12], (some (17, true))⟩,
   ⟨(some 21), .load none (.t 20), [15, 12], (some (17, true))⟩,
   ⟨(some 22), .call .heap (.f 46) [(.t 19), (.t 21)], [14, 16, 12, 12], (some (17, true))⟩,
   ⟨(some 23), .pick (.t 17) (.t 22) (.c (.bool false)), [12, 17], none⟩,
   ⟨(some 4), .mov (.t 23), [18, 17, 0, 1, 2, 3, 4, 5, 6, 7, 8, 9, 10, 11, 12, 13, 14, 15, 16, 17, 18], none⟩] [] [2, 3, 5, 6, 7, 8, 9, 10, 11, 12, 13, 14, 15, 16, 17, 18, 19, 20, 21, 22, 23])
 .ret))⟩

-- slices.Equal[[]overseer/api.Term,overseer/api.Term]
def s46 : SFn := ⟨26, [.tmp 4],
 (.seq (.region [⟨(some 4), .mov (.c (.bool false)), [], none⟩] [] [4])
 (.seq (.seq (.region [⟨(some 6), .mov (.t 0), [], none⟩,
   ⟨(some 7), .len 1 (.t 6), [0], none⟩,
   ⟨(some 8), .mov (.t 1), [], none⟩,
   ⟨(some 9), .len 1 (.t 8), [2], none⟩,
   ⟨(some 10), .bin .neq (.t 7) (.t 9), [1, 3], none⟩] [] [6, 7, 8, 9])
 (.cond (.t 10)
  (.seq (.region [⟨(some 4), .mov (.c (.bool false)), [], none⟩] [] [0, 1, 10])
  .ret)
  .skip))
 (.seq (.seq (.region [⟨(some 11), .mov (.t 0), [], none⟩,
   ⟨(some 12), .len 1 (.t 11), [0], none⟩,
   ⟨(some 13), .mov (.c (.int .i64 0)), [], none⟩] [] [4, 10, 11])
 (.block 0 (.loop (.seq (.region [⟨(some 14), .bin .lss (.t 13) (.t 12), [], none⟩] [] [])
 (.seq (.cond (.t 14)
  .skip
  (.exit 0))
 (.seq (.block 1 (.seq (.region [⟨(some 15), .mov (.t 13), [], none⟩,
   ⟨(some 5), .mov (.t 15), [0, 0], none⟩] [] [14, 15])
 (.seq (.region [⟨(some 16), .mov (.t 0), [], none⟩,
   ⟨(some 17), .mov (.t 5), [], none⟩,
   ⟨(some 18), .iaddr none 2 (.t 16) (.t 17), [0, 1], none⟩,
   ⟨(some 19), .load (some 2) (.t 18), [2], none⟩,
   ⟨(some 20), .mov (.t 1), [], none⟩,
   ⟨(some 21), .mov (.t 5), [], none⟩,
   ⟨(some 22), .iaddr none 2 (.t 20) (.t 21), [4, 5], none⟩,
   ⟨(some 23), .load (some 2) (.t 22), [6], none⟩,
   ⟨(some 24), .eq (.flat true [.i, .i]) true (.t 19) (.t 23), [3, 7], none⟩] [] [5, 16, 17, 18, 19, 20, 21, 22, 23])
 (.cond (.t 24)
  (.seq (.region [⟨(some 4), .mov (.c (.bool false)), [], none⟩] [] [0, 1, 12, 13, 24])
  .ret)
  .skip))))
 (.region [⟨(some 25), .bin .add (.t 13) (.c (.int .i64 1)), [], none⟩,
   ⟨(some 13), .mov (.t 25), [0], none⟩] [] [4, 24, 25])))))))
 (.seq (.region [⟨(some 4), .mov (.c (.bool true)), [], none⟩] [] [0, 1, 12, 13])
 .ret))))⟩

-- slices.Equal[[]int,int]
def s51 : SFn := ⟨26, [.tmp 4],
 (.seq (.region [⟨(some 4), .mov (.c (.bool false)), [], none⟩] [] [4])
 (.seq (.seq (.region [⟨(some 6), .mov (.t 0), [], none⟩,
   ⟨(some 7), .len 1 (.t 6), [0], none⟩,
   ⟨(some 8), .mov (.t 1), [], none⟩,
   ⟨(some 9), .len 1 (.t 8), [2], none⟩,
   ⟨(some 10), .bin .neq (.t 7) (.t 9), [1, 3], none⟩] [] [6, 7, 8, 9])
 (.cond (.t 10)
  (.seq (.region [⟨(some 4), .mov (.c (.bool false)), [], none⟩] [] [0, 1, 10])
  .ret)
  .skip))
 (.seq (.seq (.region [⟨(some 11), .mov (.t 0), [], none⟩,
   ⟨(some 12), .len 1 (.t 11), [0], none⟩,
   ⟨(some 13), .mov (.c (.int .i64 0)), [], none⟩] [] [4, 10, 11])
 (.block 0 (.loop (.seq (.region [⟨(some 14), .bin .lss (.t 13) (.t 12), [], none⟩] [] [])
 (.seq (.cond (.t 14)
  .skip
  (.exit 0))
 (.seq (.block 1 (.seq (.region [⟨(some 15), .mov (.t 13), [], none⟩,
   ⟨(some 5), .mov (.t 15), [0, 0], none⟩] [] [14, 15])
 (.seq (.region [⟨(some 16), .mov (.t 0), [], none⟩,
   ⟨(some 17), .mov (.t 5), [], none⟩,
   ⟨(some 18), .iaddr none 1 (.t 16) (.t 17), [0, 1], none⟩,
   ⟨(some 19), .load none (.t 18), [2], none⟩,
   ⟨(some 20), .mov (.t 1), [], none⟩,
   ⟨(some 21), .mov (.t 5), [], none⟩,
   ⟨(some 22), .iaddr none 1 (.t 20) (.t 21), [4, 5], none⟩,
   ⟨(some 23), .load none (.t 22), [6], none⟩,
   ⟨(some 24), .bin .neq (.t 19) (.t 23), [3, 7], none⟩] [] [5, 16, 17, 18, 19, 20, 21, 22, 23])
 (.cond (.t 24)
  (.seq (.region [⟨(some 4), .mov (.c (.bool false)), [], none⟩] [] [0, 1, 12, 13, 24])
  .ret)
  .skip))))
 (.region [⟨(some 25), .bin .add (.t 13) (.c (.int .i64 1)), [], none⟩,
   ⟨(some 13), .mov (.t 25), [0], none⟩] [] [4, 24, 25])))))))
 (.seq (.region [⟨(some 4), .mov (.c (.bool true)), [], none⟩] [] [0, 1, 12, 13])
 .ret))))⟩

-- overseer/catalogue.events
def s58 : SFn := ⟨36, [.tmp 4],
 (.seq (.region [⟨(some 4), .mov (.c .nilsl), [], none⟩] [] [4])
 (.seq (.region [⟨(some 5), .mov (.c .nilsl), [], none⟩] [] [])
 (.seq (.seq (.region [⟨(some 9), .mov (.t 0), [], none⟩,
   ⟨(some 10), .mov (.c (.int .i64 0)), [], none⟩] [] [0])
 (.block 0 (.loop (.seq (.region [⟨(some 11), .bin .lss (.t 10) (.t 9), [], none⟩] [] [])
 (.seq (.cond (.t 11)
  .skip
  (.exit 0))
 (.seq (.block 1 (.seq (.region [⟨(some 12), .mov (.t 10), [], none⟩,
   ⟨(some 6), .mov (.t 12), [0, 0], none⟩] [] [11, 12])
 (.seq (.region [⟨(some 13), .mov (.t 1), [], none⟩,
   ⟨(some 14), .len 1 (.t 13), [0], none⟩,
   ⟨(some 15), .mov (.c (.int .i64 0)), [], none⟩] [] [])
 (.block 2 (.loop (.seq (.region [⟨(some 16), .bin .lss (.t 15) (.t 14), [], none⟩] [] [])
 (.seq (.cond (.t 16)
  .skip
  (.exit 2))
 (.seq (.block 3 (.seq (.region [⟨(some 17), .mov (.t 15), [], none⟩,
   ⟨(some 18), .iaddr none 1 (.t 13) (.t 15), [], none⟩,
   ⟨(some 19), .load none (.t 18), [1], none⟩,
   ⟨(some 7), .mov (.t 17), [0, 0, 1, 2], none⟩,
   ⟨(some 8), .mov (.t 19), [2, 3, 0, 1, 2, 3], none⟩] [] [16, 17, 18, 19])
 (.region [⟨(some 20), .mov (.t 5), [], none⟩,
   ⟨(some 21), .mov (.t 8), [], none⟩,
   ⟨(some 22), .mov (.t 6), [], none⟩,
   ⟨(some 23), .call .heap (.f 60) [(.t 22)], [2], none⟩,
   ⟨(some 24), .bin .add (.t 21) (.t 23), [1, 3], none⟩,
   ⟨(some 25), .mov (.t 7), [], none⟩,
   ⟨(some 26), .mov (.t 1), [], none⟩,
   ⟨(some 27), .len 1 (.t 26), [6], none⟩,
   ⟨(some 28), .bin .sub (.t 27) (.c (.int .i64 1)), [7], none⟩,
   ⟨(some 29), .bin .lss (.t 25) (.t 28), [5, 8], none⟩,
   ⟨(some 30), .build [(.str []), (.bool false), (.bool false), (.bool false), (.int .i64 0)] [(0, 1, (.t 24)), (1, 1, (.t 29)), (2, 1, (.c (.bool true)))], [4, 9], none⟩,
   ⟨(some 31), .bslice false .dyn 5 1 [(.str []), (.bool false), (.bool false), (.bool false), (.int .i64 0)] [(0, 5, (.t 30))], [10], none⟩,
   ⟨(some 32), .append .dyn 5 32 (.t 20) (.t 31), [0, 11, 3], none⟩,
   ⟨(some 5), .mov (.t 32), [12, 12, 0, 1, 2, 3, 4, 5, 6, 7, 8, 9, 10, 11, 12], none⟩] [] [7, 8, 20, 21, 22, 23, 24, 25, 26, 27, 28, 29, 30, 31, 32])))
 (.region [⟨(some 33), .bin .add (.t 15) (.c (.int .i64 1)), [], none⟩,
   ⟨(some 15), .mov (.t 33), [0], none⟩] [] [33])))))))))
 (.region [⟨(some 34), .bin .add (.t 10) (.c (.int .i64 1)), [], none⟩,
   ⟨(some 10), .mov (.t 34), [0], none⟩] [] [6, 13, 14, 15, 34])))))))
 (.seq (.region [⟨(some 35), .mov (.t 5), [], none⟩,
   ⟨(some 4), .mov (.t 35), [0, 0], none⟩] [] [1, 5, 9, 10, 35])
 .ret))))⟩

-- overseer/catalogue.machine
def s59 : SFn := ⟨28, [.cell 4 (some 5)],
 (.seq (.region [⟨(some 4), .alloc .dyn (.agg [(.str []), .nilsl, (.int .i64 0), .nilsl, .nilsl]), [], none⟩] [] [])
 (.seq (.region [⟨(some 6), .mov (.t 1), [], none⟩,
   ⟨(some 7), .bin .mul (.c (.int .i64 2)) (.t 6), [0], none⟩,
   ⟨(some 8), .mov (.t 1), [], none⟩,
   ⟨(some 9), .bin .mul (.c (.int .i64 2)) (.t 8), [2], none⟩,
   ⟨(some 10), .bin .add (.t 9) (.c (.int .i64 1)), [3], none⟩,
   ⟨(some 11), .bslice false .dyn 1 2 [(.int .i64 0), (.int .i64 0)] [(0, 1, (.t 7)), (1, 1, (.t 10))], [1, 4], none⟩,
   ⟨(some 12), .bslice false .dyn 1 1 [(.int .i64 0)] [(0, 1, (.c (.int .i64 0)))], [], none⟩,
   ⟨(some 13), .mov (.t 1), [], none⟩,
   ⟨(some 14), .bin .mul (.c (.int .i64 2)) (.t 13), [7], none⟩,
   ⟨(some 15), .build [(.int .i64 0), (.int .i64 0), (.int .i64 0)] [(0, 1, (.c (.int .i64 0))), (1, 1, (.t 14)), (2, 1, (.c (.int .i64 1)))], [8], none⟩,
   ⟨(some 16), .mov (.t 1), [], none⟩,
   ⟨(some 17), .bin .mul (.c (.int .i64 2)) (.t 16), [10], none⟩,
   ⟨(some 18), .bin .add (.t 17) (.c (.int .i64 1)), [11], none⟩,
   ⟨(some 19), .build [(.int .i64 0), (.int .i64 0), (.int .i64 0)] [(0, 1, (.c (.int .i64 1))), (1, 1, (.t 18)), (2, 1, (.c (.int .i64 0)))], [12], none⟩,
   ⟨(some 20), .bslice false .dyn 3 2 [(.int .i64 0), (.int .i64 0), (.int .i64 0), (.int .i64 0), (.int .i64 0), (.int .i64 0)] [(0, 3, (.t 15)), (3, 3, (.t 19))], [9, 13], none⟩,
   ⟨(some 21), .build [.nilsl, (.int .i64 0), .nilsl, .nilsl] [(0, 1, (.t 11)), (1, 1, (.c (.int .i64 2))), (2, 1, (.t 12)), (3, 1, (.t 20))], [5, 6, 14], none⟩,
   ⟨(some 5), .alloc .dyn (.agg [.nilsl, (.int .i64 0), .nilsl, .nilsl]), [], none⟩,
   ⟨none, .store 4 (.t 5) (.t 21), [16, 15, 0, 1, 2, 3, 4, 5, 6, 7, 8, 9, 10, 11, 12, 13, 14, 15, 16], none⟩] [] [6, 7, 8, 9, 10, 11, 12, 13, 14, 15, 16, 17, 18, 19, 20, 21])
 (.seq (.region [⟨(some 22), .mov (.t 0), [], none⟩,
   ⟨(some 23), .mov (.t 1), [], none⟩,
   ⟨(some 24), .call .borrow (.f 60) [(.t 23)], [1], none⟩,
   ⟨(some 25), .bin .add (.t 22) (.t 24), [0, 2], none⟩,
   ⟨(some 26), .load (some 4) (.t 5), [], none⟩,
   ⟨(some 27), .build [(.str []), .nilsl, (.int .i64 0), .nilsl, .nilsl] [(0, 1, (.t 25)), (1, 4, (.t 26))], [3, 4], none⟩,
   ⟨none, .store 5 (.t 4) (.t 27), [5, 2, 0, 1, 2, 3, 4, 5], none⟩] [] [0, 1, 5, 22, 23, 24, 25, 26, 27])
 .ret)))⟩

-- strconv.Itoa
def s60 : SFn := ⟨5, [.tmp 2],
 (.seq (.region [⟨(some 2), .mov (.c (.str [])), [], none⟩] [] [2])
 (.seq (.region [⟨(some 3), .mov (.t 0), [], none⟩,
   ⟨(some 4), .call .heap (.f 70) [(.t 3)], [0], none⟩,
   ⟨(some 2), .mov (.t 4), [1, 1, 0, 1], none⟩] [] [0, 3, 4])
 .ret))⟩

-- slices.Sort[[]int,int]
def s61 : SFn := ⟨11, [],
 (.seq (.region [⟨(some 3), .mov (.t 0), [], none⟩,
   ⟨(some 4), .len 1 (.t 3), [0], none⟩,
   ⟨(some 2), .mov (.t 4), [1, 0, 1], none⟩] [] [3, 4])
 (.region [⟨(some 5), .mov (.t 0), [], none⟩,
   ⟨(some 6), .mov (.t 2), [], none⟩,
   ⟨(some 7), .mov (.t 2), [], none⟩,
   ⟨(some 8), .conv .u64 (.t 7), [2], none⟩,
   ⟨(some 9), .call .heap (.f 72) [(.t 8)], [3], none⟩,
   ⟨(some 10), .call .heap (.f 71) [(.t 5), (.c (.int .i64 0)), (.t 6), (.t 9)], [0, 1, 4, 4], none⟩] [] [0, 2, 5, 6, 7, 8, 9, 10]))⟩

-- slices.Equal[[]overseer/api.Edge,overseer/api.Edge]
def s62 : SFn := ⟨26, [.tmp 4],
 (.seq (.region [⟨(some 4), .mov (.c (.bool false)), [], none⟩] [] [4])
 (.seq (.seq (.region [⟨(some 6), .mov (.t 0), [], none⟩,
   ⟨(some 7), .len 1 (.t 6), [0], none⟩,
   ⟨(some 8), .mov (.t 1), [], none⟩,
   ⟨(some 9), .len 1 (.t 8), [2], none⟩,
   ⟨(some 10), .bin .neq (.t 7) (.t 9), [1, 3], none⟩] [] [6, 7, 8, 9])
 (.cond (.t 10)
  (.seq (.region [⟨(some 4), .mov (.c (.bool false)), [], none⟩] [] [0, 1, 10])
  .ret)
  .skip))
 (.seq (.seq (.region [⟨(some 11), .mov (.t 0), [], none⟩,
   ⟨(some 12), .len 1 (.t 11), [0], none⟩,
   ⟨(some 13), .mov (.c (.int .i64 0)), [], none⟩] [] [4, 10, 11])
 (.block 0 (.loop (.seq (.region [⟨(some 14), .bin .lss (.t 13) (.t 12), [], none⟩] [] [])
 (.seq (.cond (.t 14)
  .skip
  (.exit 0))
 (.seq (.block 1 (.seq (.region [⟨(some 15), .mov (.t 13), [], none⟩,
   ⟨(some 5), .mov (.t 15), [0, 0], none⟩] [] [14, 15])
 (.seq (.region [⟨(some 16), .mov (.t 0), [], none⟩,
   ⟨(some 17), .mov (.t 5), [], none⟩,
   ⟨(some 18), .iaddr none 3 (.t 16) (.t 17), [0, 1], none⟩,
   ⟨(some 19), .load (some 3) (.t 18), [2], none⟩,
   ⟨(some 20), .mov (.t 1), [], none⟩,
   ⟨(some 21), .mov (.t 5), [], none⟩,
   ⟨(some 22), .iaddr none 3 (.t 20) (.t 21), [4, 5], none⟩,
   ⟨(some 23), .load (some 3) (.t 22), [6], none⟩,
   ⟨(some 24), .eq (.flat true [.i, .i, .i]) true (.t 19) (.t 23), [3, 7], none⟩] [] [5, 16, 17, 18, 19, 20, 21, 22, 23])
 (.cond (.t 24)
  (.seq (.region [⟨(some 4), .mov (.c (.bool false)), [], none⟩] [] [0, 1, 12, 13, 24])
  .ret)
  .skip))))
 (.region [⟨(some 25), .bin .add (.t 13) (.c (.int .i64 1)), [], none⟩,
   ⟨(some 13), .mov (.t 25), [0], none⟩] [] [4, 24, 25])))))))
 (.seq (.region [⟨(some 4), .mov (.c (.bool true)), [], none⟩] [] [0, 1, 12, 13])
 .ret))))⟩

-- internal/strconv.Itoa
def s70 : SFn := ⟨5, [.tmp 2],
 (.seq (.region [⟨(some 2), .mov (.c (.str [])), [], none⟩] [] [2])
 (.seq (.region [⟨(some 3), .mov (.t 0), [], none⟩,
   ⟨(some 4), .call .heap (.f 84) [(.t 3), (.c (.int .i64 10))], [0], none⟩,
   ⟨(some 2), .mov (.t 4), [1, 1, 0, 1], none⟩] [] [0, 3, 4])
 .ret))⟩

-- slices.pdqsortOrdered[int]
def s71 : SFn := ⟨134, [],
 (.seq (.region [⟨(some 8), .mov (.c (.bool true)), [], none⟩] [] [])
 (.seq (.region [⟨(some 9), .mov (.c (.bool true)), [], none⟩] [] [])
 (.block 0 (.loop (.block 1 (.seq (.region [⟨(some 19), .mov (.t 2), [], none⟩,
   ⟨(some 20), .mov (.t 1), [], none⟩,
   ⟨(some 21), .bin .sub (.t 19) (.t 20), [0, 1], none⟩,
   ⟨(some 10), .mov (.t 21), [2, 0, 1, 2], none⟩] [] [19, 20, 21])
 (.seq (.seq (.region [⟨(some 22), .mov (.t 10), [], none⟩,
   ⟨(some 23), .bin .leq (.t 22) (.c (.int .i64 12)), [0], none⟩] [] [22])
 (.cond (.t 23)
  (.seq (.region [⟨(some 24), .mov (.t 0), [], none⟩,
    ⟨(some 25), .mov (.t 1), [], none⟩,
    ⟨(some 26), .mov (.t 2), [], none⟩,
    ⟨(some 27), .call .heap (.f 85) [(.t 24), (.t 25), (.t 26)], [0, 1, 2], none⟩] [] [0, 1, 2, 3, 8, 9, 86, 85, 80, 84, 83, 81, 82, 79, 76, 78, 77, 67, 66, 63, 10, 23, 24, 25, 26, 27])
  .ret)
  .skip))
 (.seq (.seq (.region [⟨(some 28), .mov (.t 3), [], none⟩,
   ⟨(some 29), .bin .eql (.t 28) (.c (.int .i64 0)), [0], none⟩] [] [23, 28])
 (.cond (.t 29)
  (.seq (.region [⟨(some 30), .mov (.t 0), [], none⟩,
    ⟨(some 31), .mov (.t 1), [], none⟩,
    ⟨(some 32), .mov (.t 2), [], none⟩,
    ⟨(some 33), .call .heap (.f 86) [(.t 30), (.t 31), (.t 32)], [0, 1, 2], none⟩] [] [0, 1, 2, 3, 8, 9, 86, 85, 80, 84, 83, 81, 82, 79, 76, 78, 77, 67, 66, 63, 10, 29, 30, 31, 32, 33])
  .ret)
  .skip))
 (.seq (.seq (.region [⟨(some 34), .mov (.t 8), [], none⟩,
   ⟨(some 35), .un .not (.t 34), [0], none⟩] [] [29, 34])
 (.cond (.t 35)
  (.seq (.region [⟨(some 36), .mov (.t 0), [], none⟩,
    ⟨(some 37), .mov (.t 1), [], none⟩,
    ⟨(some 38), .mov (.t 2), [], none⟩,
    ⟨(some 39), .call .heap (.f 87) [(.t 36), (.t 37), (.t 38)], [0, 1, 2], none⟩] [] [35, 36, 37, 38, 39])
  (.region [⟨(some 40), .mov (.t 3), [], none⟩,
    ⟨(some 41), .bin .sub (.t 40) (.c (.int .i64 1)), [0], none⟩,
    ⟨(some 3), .mov (.t 41), [1, 0, 1], none⟩] [] [40, 41]))
  .skip))
 (.seq (.region [⟨(some 43), .mov (.t 0), [], none⟩,
   ⟨(some 44), .mov (.t 1), [], none⟩,
   ⟨(some 45), .mov (.t 2), [], none⟩,
   ⟨(some 46), .call .heap (.f 88) [(.t 43), (.t 44), (.t 45)], [0, 1, 2], none⟩,
   ⟨(some 42), .mov (.t 46), [3], none⟩,
   ⟨(some 47), .extract 0 (.t 42), [4], none⟩,
   ⟨(some 48), .extract 1 (.t 42), [4], none⟩,
   ⟨(some 11), .mov (.t 47), [5, 3, 0, 1, 2, 3, 4, 5], none⟩,
   ⟨(some 12), .mov (.t 48), [6, 7, 0, 1, 2, 3, 4, 5, 6, 7], none⟩] [] [35, 43, 44, 45, 46, 42, 47, 48])
 (.seq (.seq (.region [⟨(some 49), .mov (.t 12), [], none⟩,
   ⟨(some 50), .bin .eql (.t 49) (.c (.int .i64 2)), [0], none⟩] [] [49])
 (.cond (.t 50)
  (.seq (.region [⟨(some 51), .mov (.t 0), [], none⟩,
    ⟨(some 52), .mov (.t 1), [], none⟩,
    ⟨(some 53), .mov (.t 2), [], none⟩,
    ⟨(some 54), .call .heap (.f 89) [(.t 51), (.t 52), (.t 53)], [0, 1, 2], none⟩] [] [12, 50, 51, 52, 53, 54])
  (.seq (.region [⟨(some 55), .mov (.t 2), [], none⟩,
    ⟨(some 56), .bin .sub (.t 55) (.c (.int .i64 1)), [0], none⟩,
    ⟨(some 57), .mov (.t 11), [], none⟩,
    ⟨(some 58), .mov (.t 1), [], none⟩,
    ⟨(some 59), .bin .sub (.t 57) (.t 58), [2, 3], none⟩,
    ⟨(some 60), .bin .sub (.t 56) (.t 59), [1, 4], none⟩,
    ⟨(some 11), .mov (.t 60), [5, 0, 1, 2, 3, 4, 5], none⟩] [] [55, 56, 57, 58, 59, 60])
  (.region [⟨(some 12), .mov (.c (.int .i64 1)), [], none⟩] [] [])))
  .skip))
 (.seq (.seq (.region [⟨(some 61), .mov (.t 8), [], none⟩,
   ⟨(some 62), .mov (.t 61), [0], none⟩,
   ⟨(some 63), .mov (.t 9), [1], (some (62, true))⟩,
   ⟨(some 64), .pick (.t 62) (.t 63) (.c (.bool false)), [1, 2], none⟩,
   ⟨(some 65), .mov (.t 64), [3, 1], none⟩,
   ⟨(some 66), .mov (.t 12), [4], (some (65, true))⟩,
   ⟨(some 67), .bin .eql (.t 66) (.c (.int .i64 1)), [5, 4], (some (65, true))⟩,
   ⟨(some 68), .pick (.t 65) (.t 67) (.c (.bool false)), [4, 6], none⟩] [] [12, 50, 61, 62, 64, 65])
 (.cond (.t 68)
  (.seq (.region [⟨(some 69), .mov (.t 0), [], none⟩,
    ⟨(some 70), .mov (.t 1), [], none⟩,
    ⟨(some 71), .mov (.t 2), [], none⟩,
    ⟨(some 72), .call .heap (.f 90) [(.t 69), (.t 70), (.t 71)], [0, 1, 2], none⟩] [] [68, 69, 70, 71])
  (.cond (.t 72)
   .ret
   .skip))
  .skip))
 (.seq (.seq (.region [⟨(some 73), .mov (.t 1), [], none⟩,
   ⟨(some 74), .bin .gtr (.t 73) (.c (.int .i64 0)), [0], none⟩,
   ⟨(some 75), .mov (.t 74), [1], none⟩,
   ⟨(some 76), .mov (.t 0), [2], (some (75, true))⟩,
   ⟨(some 77), .mov (.t 1), [2], (some (75, true))⟩,
   ⟨(some 78), .bin .sub (.t 77) (.c (.int .i64 1)), [4, 2], (some (75, true))⟩,
   ⟨(some 79), .iaddr none 1 (.t 76) (.t 78), [3, 5, 2], (some (75, true))⟩,
   ⟨(some 80), .load none (.t 79), [6, 2], (some (75, true))⟩,
   ⟨(some 81), .mov (.t 0), [2], (some (75, true))⟩,
   ⟨(some 82), .mov (.t 11), [2], (some (75, true))⟩,
   ⟨(some 83), .iaddr none 1 (.t 81) (.t 82), [8, 9, 2], (some (75, true))⟩,
   ⟨(some 84), .load none (.t 83), [10, 2], (some (75, true))⟩,
   ⟨(some 85), .call .heap (.f 91) [(.t 80), (.t 84)], [7, 11, 2, 2], (some (75, true))⟩,
   ⟨(some 86), .un .not (.t 85), [12, 2], (some (75, true))⟩,
   ⟨(some 87), .pick (.t 75) (.t 86) (.c (.bool false)), [2, 13], none⟩] [] [72, 68, 73, 74, 75])
 (.cond (.t 87)
  (.seq (.region [⟨(some 88), .mov (.t 0), [], none⟩,
    ⟨(some 89), .mov (.t 1), [], none⟩,
    ⟨(some 90), .mov (.t 2), [], none⟩,
    ⟨(some 91), .mov (.t 11), [], none⟩,
    ⟨(some 92), .call .heap (.f 92) [(.t 88), (.t 89), (.t 90), (.t 91)], [0, 1, 2, 3], none⟩,
    ⟨(some 13), .mov (.t 92), [4, 4, 0, 1, 2, 3, 4], none⟩] [] [1, 10, 11, 87, 88, 89, 90, 91, 92])
  (.seq (.region [⟨(some 93), .mov (.t 13), [], none⟩,
    ⟨(some 1), .mov (.t 93), [0, 0], none⟩] [] [13, 93])
  (.exit 1)))
  .skip))
 (.seq (.region [⟨(some 95), .mov (.t 0), [], none⟩,
   ⟨(some 96), .mov (.t 1), [], none⟩,
   ⟨(some 97), .mov (.t 2), [], none⟩,
   ⟨(some 98), .mov (.t 11), [], none⟩,
   ⟨(some 99), .call .heap (.f 93) [(.t 95), (.t 96), (.t 97), (.t 98)], [0, 1, 2, 3], none⟩,
   ⟨(some 94), .mov (.t 99), [4], none⟩,
   ⟨(some 100), .extract 0 (.t 94), [5], none⟩,
   ⟨(some 101), .extract 1 (.t 94), [5], none⟩,
   ⟨(some 14), .mov (.t 100), [6, 4, 0, 1, 2, 3, 4, 5, 6], none⟩,
   ⟨(some 15), .mov (.t 101), [7, 8, 0, 1, 2, 3, 4, 5, 6, 7, 8], none⟩] [] [8, 9, 11, 87, 95, 96, 97, 98, 99, 94, 100, 101])
 (.seq (.region [⟨(some 102), .mov (.t 15), [], none⟩,
   ⟨(some 9), .mov (.t 102), [0, 0], none⟩] [] [15, 102])
 (.seq (.region [⟨(some 103), .mov (.t 14), [], none⟩,
   ⟨(some 104), .mov (.t 1), [], none⟩,
   ⟨(some 105), .bin .sub (.t 103) (.t 104), [0, 1], none⟩,
   ⟨(some 106), .mov (.t 2), [], none⟩,
   ⟨(some 107), .mov (.t 14), [], none⟩,
   ⟨(some 108), .bin .sub (.t 106) (.t 107), [3, 4], none⟩,
   ⟨(some 16), .mov (.t 105), [2, 0, 1, 2], none⟩,
   ⟨(some 17), .mov (.t 108), [5, 6, 0, 1, 2, 3, 4, 5, 6], none⟩] [] [103, 104, 105, 106, 107, 108])
 (.seq (.region [⟨(some 109), .mov (.t 10), [], none⟩,
   ⟨(some 110), .bin .quo (.t 109) (.c (.int .i64 8)), [0], none⟩,
   ⟨(some 18), .mov (.t 110), [1, 0, 1], none⟩] [] [10, 109, 110])
 (.seq (.region [⟨(some 111), .mov (.t 16), [], none⟩,
   ⟨(some 112), .mov (.t 17), [], none⟩,
   ⟨(some 113), .bin .lss (.t 111) (.t 112), [0, 1], none⟩] [] [111, 112])
 (.cond (.t 113)
  (.seq (.region [⟨(some 114), .mov (.t 16), [], none⟩,
    ⟨(some 115), .mov (.t 18), [], none⟩,
    ⟨(some 116), .bin .geq (.t 114) (.t 115), [0, 1], none⟩,
    ⟨(some 8), .mov (.t 116), [2, 0, 1, 2], none⟩] [] [16, 17, 18, 113, 114, 115, 116])
  (.seq (.region [⟨(some 117), .mov (.t 0), [], none⟩,
    ⟨(some 118), .mov (.t 1), [], none⟩,
    ⟨(some 119), .mov (.t 14), [], none⟩,
    ⟨(some 120), .mov (.t 3), [], none⟩,
    ⟨(some 121), .call .heap (.f 71) [(.t 117), (.t 118), (.t 119), (.t 120)], [0, 1, 2, 3], none⟩] [] [1, 117, 118, 119, 120, 121])
  (.region [⟨(some 122), .mov (.t 14), [], none⟩,
    ⟨(some 123), .bin .add (.t 122) (.c (.int .i64 1)), [0], none⟩,
    ⟨(some 1), .mov (.t 123), [1, 0, 1], none⟩] [] [14, 122, 123])))
  (.seq (.region [⟨(some 124), .mov (.t 17), [], none⟩,
    ⟨(some 125), .mov (.t 18), [], none⟩,
    ⟨(some 126), .bin .geq (.t 124) (.t 125), [0, 1], none⟩,
    ⟨(some 8), .mov (.t 126), [2, 0, 1, 2], none⟩] [] [16, 17, 18, 113, 124, 125, 126])
  (.seq (.region [⟨(some 127), .mov (.t 0), [], none⟩,
    ⟨(some 128), .mov (.t 14), [], none⟩,
    ⟨(some 129), .bin .add (.t 128) (.c (.int .i64 1)), [1], none⟩,
    ⟨(some 130), .mov (.t 2), [], none⟩,
    ⟨(some 131), .mov (.t 3), [], none⟩,
    ⟨(some 132), .call .heap (.f 71) [(.t 127), (.t 129), (.t 130), (.t 131)], [0, 2, 3, 4], none⟩] [] [2, 127, 128, 129, 130, 131, 132])
  (.region [⟨(some 133), .mov (.t 14), [], none⟩,
    ⟨(some 2), .mov (.t 133), [0, 0], none⟩] [] [14, 133]))))))))))))))))))))))⟩

-- math/bits.Len
def s72 : SFn := ⟨8, [.tmp 2],
 (.seq (.region [⟨(some 2), .mov (.c (.int .i64 0)), [], none⟩] [] [2])
 (.seq (.cond (.c (.bool false))
  (.seq (.region [⟨(some 3), .mov (.t 0), [], none⟩,
    ⟨(some 4), .conv .u32 (.t 3), [0], none⟩,
    ⟨(some 5), .call .heap (.f 94) [(.t 4)], [1], none⟩,
    ⟨(some 2), .mov (.t 5), [2, 2, 0, 1, 2], none⟩] [] [0, 3, 4, 5])
  .ret)
  .skip)
 (.seq (.region [⟨(some 6), .mov (.t 0), [], none⟩,
   ⟨(some 7), .call .heap (.f 95) [(.t 6)], [0], none⟩,
   ⟨(some 2), .mov (.t 7), [1, 1, 0, 1], none⟩] [] [0, 6, 7])
 .ret)))⟩

-- internal/strconv.FormatInt
def s84 : SFn := ⟨54, [.tmp 4],
 (.seq (.region [⟨(some 4), .mov (.c (.str [])), [], none⟩] [] [4])
 (.seq (.seq (.region [⟨(some 10), .mov (.t 1), [], none⟩,
   ⟨(some 11), .bin .eql (.t 10) (.c (.int .i64 10)), [0], none⟩] [] [10])
 (.cond (.t 11)
  (.seq (.seq (.region [⟨(some 12), .mov (.t 0), [], none⟩,
    ⟨(some 13), .bin .leq (.c (.int .i64 0)) (.t 12), [0], none⟩,
    ⟨(some 14), .mov (.t 13), [1], none⟩,
    ⟨(some 15), .mov (.t 0), [2], (some (14, true))⟩,
    ⟨(some 16), .bin .lss (.t 15) (.c (.int .i64 100)), [3, 2], (some (14, true))⟩,
    ⟨(some 17), .pick (.t 14) (.t 16) (.c (.bool false)), [2, 4], none⟩] [] [1, 11, 12, 13, 14, 15, 16])
  (.cond (.t 17)
   (.seq (.region [⟨(some 18), .mov (.t 0), [], none⟩,
     ⟨(some 19), .call .heap (.f 102) [(.t 18)], [0], none⟩,
     ⟨(some 4), .mov (.t 19), [1, 1, 0, 1], none⟩] [] [0, 17, 18, 19])
   .ret)
   .skip))
  (.seq (.region [⟨(some 5), .alloc .dyn (.agg [(.int .u8 0), (.int .u8 0), (.int .u8 0), (.int .u8 0), (.int .u8 0), (.int .u8 0), (.int .u8 0), (.int .u8 0), (.int .u8 0), (.int .u8 0), (.int .u8 0), (.int .u8 0), (.int .u8 0), (.int .u8 0), (.int .u8 0), (.int .u8 0), (.int .u8 0), (.int .u8 0), (.int .u8 0), (.int .u8 0), (.int .u8 0), (.int .u8 0), (.int .u8 0), (.int .u8 0)]), [], none⟩] [] [4, 17])
  (.seq (.region [⟨(some 20), .mov (.t 0), [], none⟩,
    ⟨(some 21), .conv .u64 (.t 20), [0], none⟩,
    ⟨(some 6), .mov (.t 21), [1, 0, 1], none⟩] [] [20, 21])
  (.seq (.seq (.region [⟨(some 22), .mov (.t 0), [], none⟩,
    ⟨(some 23), .bin .lss (.t 22) (.c (.int .i64 0)), [0], none⟩] [] [22])
  (.cond (.t 23)
   (.region [⟨(some 24), .mov (.t 6), [], none⟩,
     ⟨(some 25), .un .neg (.t 24), [0], none⟩,
     ⟨(some 6), .mov (.t 25), [1, 0, 1], none⟩] [] [23, 24, 25])
   .skip))
  (.seq (.region [⟨(some 26), .mov (.t 6), [], none⟩,
    ⟨(some 27), .call .heap (.f 103) [(.t 26)], [0], none⟩,
    ⟨(some 7), .mov (.t 27), [1, 1, 0, 1], none⟩] [] [23, 26, 27])
  (.seq (.region [⟨(some 28), .mov (.t 7), [], none⟩,
    ⟨(some 29), .bin .add (.c (.int .i64 1)) (.t 28), [0], none⟩,
    ⟨(some 30), .bad, [1], none⟩,
    ⟨(some 31), .mov (.t 6), [], none⟩,
    ⟨(some 32), .call .heap (.f 104) [(.t 30), (.t 31)], [2, 3], none⟩] [] [6, 28, 29, 30, 31, 32])
  (.seq (.seq (.region [⟨(some 33), .mov (.t 0), [], none⟩,
    ⟨(some 34), .bin .lss (.t 33) (.c (.int .i64 0)), [0], none⟩] [] [0, 33])
  (.cond (.t 34)
   (.seq (.region [⟨(some 35), .iaddr (some 24) 1 (.t 5) (.c (.int .i64 0)), [], none⟩,
     ⟨none, .store 1 (.t 35) (.c (.int .u8 45)), [0], none⟩] [] [5, 34, 35])
   (.seq (.region [⟨(some 36), .mov (.t 7), [], none⟩,
     ⟨(some 37), .bin .add (.c (.int .i64 1)) (.t 36), [0], none⟩,
     ⟨(some 38), .bad, [1], none⟩,
     ⟨(some 39), .bad, [2], none⟩,
     ⟨(some 4), .mov (.t 39), [3, 0, 1, 2, 3], none⟩] [] [7, 36, 37, 38, 39])
   .ret))
   .skip))
  (.seq (.region [⟨(some 40), .mov (.t 7), [], none⟩,
    ⟨(some 41), .bin .add (.c (.int .i64 1)) (.t 40), [0], none⟩,
    ⟨(some 42), .bad, [1], none⟩,
    ⟨(some 43), .bad, [2], none⟩,
    ⟨(some 4), .mov (.t 43), [3, 0, 1, 2, 3], none⟩] [] [5, 7, 34, 40, 41, 42, 43])
  .ret))))))))
  .skip))
 (.seq (.region [⟨(some 45), .mov (.t 0), [], none⟩,
   ⟨(some 46), .conv .u64 (.t 45), [0], none⟩,
   ⟨(some 47), .mov (.t 1), [], none⟩,
   ⟨(some 48), .mov (.t 0), [], none⟩,
   ⟨(some 49), .bin .lss (.t 48) (.c (.int .i64 0)), [3], none⟩,
   ⟨(some 50), .call .heap (.f 105) [(.c .nilsl), (.t 46), (.t 47), (.t 49), (.c (.bool false))], [1, 2, 4], none⟩,
   ⟨(some 44), .mov (.t 50), [5], none⟩,
   ⟨(some 51), .extract 0 (.t 44), [6], none⟩,
   ⟨(some 52), .extract 1 (.t 44), [6], none⟩,
   ⟨(some 8), .mov (.t 51), [7, 5, 0, 1, 2, 3, 4, 5, 6, 7], none⟩,
   ⟨(some 9), .mov (.t 52), [8, 9, 0, 1, 2, 3, 4, 5, 6, 7, 8, 9], none⟩] [] [4, 0, 1, 11, 45, 46, 47, 48, 49, 50, 44, 51, 52, 8])
 (.seq (.region [⟨(some 53), .mov (.t 9), [], none⟩,
   ⟨(some 4), .mov (.t 53), [0, 0], none⟩] [] [9, 53])
 .ret))))⟩

-- slices.insertionSortOrdered[int]
def s85 : SFn := ⟨49, [],
 (.seq (.region [⟨(some 8), .mov (.t 1), [], none⟩,
   ⟨(some 9), .bin .add (.t 8) (.c (.int .i64 1)), [0], none⟩,
   ⟨(some 6), .mov (.t 9), [1, 0, 1], none⟩] [] [8, 9])
 (.block 0 (.loop (.seq (.seq (.region [⟨(some 10), .mov (.t 6), [], none⟩,
   ⟨(some 11), .mov (.t 2), [], none⟩,
   ⟨(some 12), .bin .lss (.t 10) (.t 11), [0, 1], none⟩] [] [10, 11])
 (.cond (.t 12)
  .skip
  (.exit 0)))
 (.seq (.block 1 (.seq (.region [⟨(some 15), .mov (.t 6), [], none⟩,
   ⟨(some 7), .mov (.t 15), [0, 0], none⟩] [] [12, 15])
 (.block 2 (.loop (.seq (.seq (.region [⟨(some 16), .mov (.t 7), [], none⟩,
   ⟨(some 17), .mov (.t 1), [], none⟩,
   ⟨(some 18), .bin .gtr (.t 16) (.t 17), [0, 1], none⟩,
   ⟨(some 19), .mov (.t 18), [2], none⟩,
   ⟨(some 20), .mov (.t 0), [3], (some (19, true))⟩,
   ⟨(some 21), .mov (.t 7), [3], (some (19, true))⟩,
   ⟨(some 22), .iaddr none 1 (.t 20) (.t 21), [4, 5, 3], (some (19, true))⟩,
   ⟨(some 23), .load none (.t 22), [6, 3], (some (19, true))⟩,
   ⟨(some 24), .mov (.t 0), [3], (some (19, true))⟩,
   ⟨(some 25), .mov (.t 7), [3], (some (19, true))⟩,
   ⟨(some 26), .bin .sub (.t 25) (.c (.int .i64 1)), [9, 3], (some (19, true))⟩,
   ⟨(some 27), .iaddr none 1 (.t 24) (.t 26), [8, 10, 3], (some (19, true))⟩,
   ⟨(some 28), .load none (.t 27), [11, 3], (some (19, true))⟩,
   ⟨(some 29), .call .heap (.f 91) [(.t 23), (.t 28)], [7, 12, 3, 3], (some (19, true))⟩,
   ⟨(some 30), .pick (.t 19) (.t 29) (.c (.bool false)), [3, 13], none⟩] [] [16, 17, 18, 19])
 (.cond (.t 30)
  .skip
  (.exit 2)))
 (.seq (.block 3 (.region [⟨(some 33), .mov (.t 0), [], none⟩,
   ⟨(some 34), .mov (.t 7), [], none⟩,
   ⟨(some 35), .mov (.t 0), [], none⟩,
   ⟨(some 36), .mov (.t 7), [], none⟩,
   ⟨(some 37), .bin .sub (.t 36) (.c (.int .i64 1)), [3], none⟩,
   ⟨(some 38), .mov (.t 0), [], none⟩,
   ⟨(some 39), .mov (.t 7), [], none⟩,
   ⟨(some 40), .bin .sub (.t 39) (.c (.int .i64 1)), [6], none⟩,
   ⟨(some 41), .iaddr none 1 (.t 38) (.t 40), [5, 7], none⟩,
   ⟨(some 42), .load none (.t 41), [8], none⟩,
   ⟨(some 43), .mov (.t 0), [], none⟩,
   ⟨(some 44), .mov (.t 7), [], none⟩,
   ⟨(some 45), .iaddr none 1 (.t 43) (.t 44), [10, 11], none⟩,
   ⟨(some 46), .load none (.t 45), [12], none⟩,
   ⟨(some 47), .iaddr none 1 (.t 33) (.t 34), [0, 1, 0, 1, 5, 6, 7, 8, 9, 13], none⟩,
   ⟨none, .store 1 (.t 47) (.t 42), [14, 9, 0, 1, 5, 6, 7, 8, 9, 13], none⟩,
   ⟨(some 48), .iaddr none 1 (.t 35) (.t 37), [2, 4, 0, 1, 2, 3, 4, 5, 6, 7, 8, 9, 10, 11, 12, 13, 14, 15], none⟩,
   ⟨none, .store 1 (.t 48) (.t 46), [16, 13, 15, 0, 1, 2, 3, 4, 5, 6, 7, 8, 9, 10, 11, 12, 13, 14, 15], none⟩] [] [30, 33, 34, 35, 36, 37, 38, 39, 40, 41, 42, 43, 44, 45, 46, 47, 48]))
 (.region [⟨(some 31), .mov (.t 7), [], none⟩,
   ⟨(some 32), .bin .sub (.t 31) (.c (.int .i64 1)), [0], none⟩,
   ⟨(some 7), .mov (.t 32), [1, 0, 1], none⟩] [] [31, 32])))))))
 (.region [⟨(some 13), .mov (.t 6), [], none⟩,
   ⟨(some 14), .bin .add (.t 13) (.c (.int .i64 1)), [0], none⟩,
   ⟨(some 6), .mov (.t 14), [1, 0, 1], none⟩] [] [7, 13, 14]))))))⟩

-- slices.heapSortOrdered[int]
def s86 : SFn := ⟨56, [],
 (.seq (.region [⟨(some 11), .mov (.t 1), [], none⟩,
   ⟨(some 6), .mov (.t 11), [0, 0], none⟩] [] [11])
 (.seq (.region [⟨(some 7), .mov (.c (.int .i64 0)), [], none⟩] [] [])
 (.seq (.region [⟨(some 12), .mov (.t 2), [], none⟩,
   ⟨(some 13), .mov (.t 1), [], none⟩,
   ⟨(some 14), .bin .sub (.t 12) (.t 13), [0, 1], none⟩,
   ⟨(some 8), .mov (.t 14), [2, 0, 1, 2], none⟩] [] [1, 2, 12, 13, 14])
 (.seq (.seq (.region [⟨(some 15), .mov (.t 8), [], none⟩,
   ⟨(some 16), .bin .sub (.t 15) (.c (.int .i64 1)), [0], none⟩,
   ⟨(some 17), .bin .quo (.t 16) (.c (.int .i64 2)), [1], none⟩,
   ⟨(some 9), .mov (.t 17), [2, 0, 1, 2], none⟩] [] [15, 16, 17])
 (.block 0 (.loop (.seq (.seq (.region [⟨(some 18), .mov (.t 9), [], none⟩,
   ⟨(some 19), .bin .geq (.t 18) (.c (.int .i64 0)), [0], none⟩] [] [18])
 (.cond (.t 19)
  .skip
  (.exit 0)))
 (.seq (.block 1 (.region [⟨(some 22), .mov (.t 0), [], none⟩,
   ⟨(some 23), .mov (.t 9), [], none⟩,
   ⟨(some 24), .mov (.t 8), [], none⟩,
   ⟨(some 25), .mov (.t 6), [], none⟩,
   ⟨(some 26), .call .heap (.f 106) [(.t 22), (.t 23), (.t 24), (.t 25)], [0, 1, 2, 3], none⟩] [] [19, 22, 23, 24, 25, 26]))
 (.region [⟨(some 20), .mov (.t 9), [], none⟩,
   ⟨(some 21), .bin .sub (.t 20) (.c (.int .i64 1)), [0], none⟩,
   ⟨(some 9), .mov (.t 21), [1, 0, 1], none⟩] [] [20, 21]))))))
 (.seq (.region [⟨(some 27), .mov (.t 8), [], none⟩,
   ⟨(some 28), .bin .sub (.t 27) (.c (.int .i64 1)), [0], none⟩,
   ⟨(some 10), .mov (.t 28), [1, 0, 1], none⟩] [] [8, 9, 27, 28])
 (.block 2 (.loop (.seq (.seq (.region [⟨(some 29), .mov (.t 10), [], none⟩,
   ⟨(some 30), .bin .geq (.t 29) (.c (.int .i64 0)), [0], none⟩] [] [29])
 (.cond (.t 30)
  .skip
  (.exit 2)))
 (.seq (.block 3 (.seq (.region [⟨(some 33), .mov (.t 0), [], none⟩,
   ⟨(some 34), .mov (.t 6), [], none⟩,
   ⟨(some 35), .mov (.t 0), [], none⟩,
   ⟨(some 36), .mov (.t 6), [], none⟩,
   ⟨(some 37), .mov (.t 10), [], none⟩,
   ⟨(some 38), .bin .add (.t 36) (.t 37), [3, 4], none⟩,
   ⟨(some 39), .mov (.t 0), [], none⟩,
   ⟨(some 40), .mov (.t 6), [], none⟩,
   ⟨(some 41), .mov (.t 10), [], none⟩,
   ⟨(some 42), .bin .add (.t 40) (.t 41), [7, 8], none⟩,
   ⟨(some 43), .iaddr none 1 (.t 39) (.t 42), [6, 9], none⟩,
   ⟨(some 44), .load none (.t 43), [10], none⟩,
   ⟨(some 45), .mov (.t 0), [], none⟩,
   ⟨(some 46), .mov (.t 6), [], none⟩,
   ⟨(some 47), .iaddr none 1 (.t 45) (.t 46), [12, 13], none⟩,
   ⟨(some 48), .load none (.t 47), [14], none⟩,
   ⟨(some 49), .iaddr none 1 (.t 33) (.t 34), [0, 1, 0, 1, 6, 7, 8, 9, 10, 11, 15], none⟩,
   ⟨none, .store 1 (.t 49) (.t 44), [16, 11, 0, 1, 6, 7, 8, 9, 10, 11, 15], none⟩,
   ⟨(some 50), .iaddr none 1 (.t 35) (.t 38), [2, 5, 0, 1, 2, 3, 4, 5, 6, 7, 8, 9, 10, 11, 12, 13, 14, 15, 16, 17], none⟩,
   ⟨none, .store 1 (.t 50) (.t 48), [18, 15, 17, 0, 1, 2, 3, 4, 5, 6, 7, 8, 9, 10, 11, 12, 13, 14, 15, 16, 17], none⟩] [] [30, 33, 34, 35, 36, 37, 38, 39, 40, 41, 42, 43, 44, 45, 46, 47, 48, 49, 50])
 (.region [⟨(some 51), .mov (.t 0), [], none⟩,
   ⟨(some 52), .mov (.t 7), [], none⟩,
   ⟨(some 53), .mov (.t 10), [], none⟩,
   ⟨(some 54), .mov (.t 6), [], none⟩,
   ⟨(some 55), .call .heap (.f 106) [(.t 51), (.t 52), (.t 53), (.t 54)], [0, 1, 2, 3], none⟩] [] [51, 52, 53, 54, 55])))
 (.region [⟨(some 31), .mov (.t 10), [], none⟩,
   ⟨(some 32), .bin .sub (.t 31) (.c (.int .i64 1)), [0], none⟩,
   ⟨(some 10), .mov (.t 32), [1, 0, 1], none⟩] [] [31, 32]))))))))))⟩

-- slices.breakPatternsOrdered[int]
def s87 : SFn := ⟨65, [],
 (.seq (.region [⟨(some 11), .mov (.t 2), [], none⟩,
   ⟨(some 12), .mov (.t 1), [], none⟩,
   ⟨(some 13), .bin .sub (.t 11) (.t 12), [0, 1], none⟩,
   ⟨(some 6), .mov (.t 13), [2, 0, 1, 2], none⟩] [] [2, 11, 12, 13])
 (.seq (.region [⟨(some 14), .mov (.t 6), [], none⟩,
   ⟨(some 15), .bin .geq (.t 14) (.c (.int .i64 8)), [0], none⟩] [] [14])
 (.cond (.t 15)
  (.seq (.region [⟨(some 16), .mov (.t 6), [], none⟩,
    ⟨(some 17), .conv .u64 (.t 16), [0], none⟩,
    ⟨(some 7), .alloc .dyn (.int .u64 0), [], none⟩,
    ⟨none, .store 1 (.t 7) (.t 17), [2, 1, 0, 1, 2], none⟩] [] [15, 16, 17])
  (.seq (.region [⟨(some 18), .mov (.t 6), [], none⟩,
    ⟨(some 19), .call .heap (.f 107) [(.t 18)], [0], none⟩,
    ⟨(some 8), .mov (.t 19), [1, 1, 0, 1], none⟩] [] [18, 19])
  (.seq (.region [⟨(some 20), .mov (.t 1), [], none⟩,
    ⟨(some 21), .mov (.t 6), [], none⟩,
    ⟨(some 22), .bin .quo (.t 21) (.c (.int .i64 4)), [1], none⟩,
    ⟨(some 23), .bin .mul (.t 22) (.c (.int .i64 2)), [2], none⟩,
    ⟨(some 24), .bin .add (.t 20) (.t 23), [0, 3], none⟩,
    ⟨(some 25), .bin .sub (.t 24) (.c (.int .i64 1)), [4], none⟩,
    ⟨(some 9), .mov (.t 25), [5, 0, 1, 2, 3, 4, 5], none⟩] [] [20, 21, 22, 23, 24, 25])
  (.block 0 (.loop (.seq (.seq (.region [⟨(some 26), .mov (.t 9), [], none⟩,
    ⟨(some 27), .mov (.t 1), [], none⟩,
    ⟨(some 28), .mov (.t 6), [], none⟩,
    ⟨(some 29), .bin .quo (.t 28) (.c (.int .i64 4)), [2], none⟩,
    ⟨(some 30), .bin .mul (.t 29) (.c (.int .i64 2)), [3], none⟩,
    ⟨(some 31), .bin .add (.t 27) (.t 30), [1, 4], none⟩,
    ⟨(some 32), .bin .add (.t 31) (.c (.int .i64 1)), [5], none⟩,
    ⟨(some 33), .bin .leq (.t 26) (.t 32), [0, 6], none⟩] [] [26, 27, 28, 29, 30, 31, 32])
  (.cond (.t 33)
   .skip
   (.exit 0)))
  (.seq (.block 1 (.seq (.region [⟨(some 36), .call .heap (.f 108) [(.t 7)], [], none⟩,
    ⟨(some 37), .mov (.t 8), [], none⟩,
    ⟨(some 38), .bin .sub (.t 37) (.c (.int .u64 1)), [1], none⟩,
    ⟨(some 39), .bin .and (.t 36) (.t 38), [0, 2], none⟩,
    ⟨(some 40), .conv .i64 (.t 39), [3], none⟩,
    ⟨(some 10), .mov (.t 40), [4, 0, 0, 1, 2, 3, 4], none⟩] [] [33, 36, 37, 38, 39, 40])
  (.seq (.seq (.region [⟨(some 41), .mov (.t 10), [], none⟩,
    ⟨(some 42), .mov (.t 6), [], none⟩,
    ⟨(some 43), .bin .geq (.t 41) (.t 42), [0, 1], none⟩] [] [41, 42])
  (.cond (.t 43)
   (.region [⟨(some 44), .mov (.t 10), [], none⟩,
     ⟨(some 45), .mov (.t 6), [], none⟩,
     ⟨(some 46), .bin .sub (.t 44) (.t 45), [0, 1], none⟩,
     ⟨(some 10), .mov (.t 46), [2, 0, 1, 2], none⟩] [] [43, 44, 45, 46])
   .skip))
  (.region [⟨(some 47), .mov (.t 0), [], none⟩,
    ⟨(some 48), .mov (.t 9), [], none⟩,
    ⟨(some 49), .mov (.t 0), [], none⟩,
    ⟨(some 50), .mov (.t 1), [], none⟩,
    ⟨(some 51), .mov (.t 10), [], none⟩,
    ⟨(some 52), .bin .add (.t 50) (.t 51), [3, 4], none⟩,
    ⟨(some 53), .mov (.t 0), [], none⟩,
    ⟨(some 54), .mov (.t 1), [], none⟩,
    ⟨(some 55), .mov (.t 10), [], none⟩,
    ⟨(some 56), .bin .add (.t 54) (.t 55), [7, 8], none⟩,
    ⟨(some 57), .iaddr none 1 (.t 53) (.t 56), [6, 9], none⟩,
    ⟨(some 58), .load none (.t 57), [10], none⟩,
    ⟨(some 59), .mov (.t 0), [], none⟩,
    ⟨(some 60), .mov (.t 9), [], none⟩,
    ⟨(some 61), .iaddr none 1 (.t 59) (.t 60), [12, 13], none⟩,
    ⟨(some 62), .load none (.t 61), [14], none⟩,
    ⟨(some 63), .iaddr none 1 (.t 47) (.t 48), [0, 1, 0, 1, 6, 7, 8, 9, 10, 11, 15], none⟩,
    ⟨none, .store 1 (.t 63) (.t 58), [16, 11, 0, 1, 6, 7, 8, 9, 10, 11, 15], none⟩,
    ⟨(some 64), .iaddr none 1 (.t 49) (.t 52), [2, 5, 0, 1, 2, 3, 4, 5, 6, 7, 8, 9, 10, 11, 12, 13, 14, 15, 16, 17], none⟩,
    ⟨none, .store 1 (.t 64) (.t 62), [18, 15, 17, 0, 1, 2, 3, 4, 5, 6, 7, 8, 9, 10, 11, 12, 13, 14, 15, 16, 17], none⟩] [] [10, 43, 47, 48, 49, 50, 51, 52, 53, 54, 55, 56, 57, 58, 59, 60, 61, 62, 63, 64]))))
  (.region [⟨(some 34), .mov (.t 9), [], none⟩,
    ⟨(some 35), .bin .add (.t 34) (.c (.int .i64 1)), [0], none⟩,
    ⟨(some 9), .mov (.t 35), [1, 0, 1], none⟩] [] [34, 35]))))))))
  .skip)))⟩

-- slices.choosePivotOrdered[int]
def s88 : SFn := ⟨57, [.tmp 6, .tmp 7],
 (.seq (.region [⟨(some 6), .mov (.c (.int .i64 0)), [], none⟩,
   ⟨(some 7), .mov (.c (.int .i64 0)), [0], none⟩] [] [6, 7])
 (.seq (.region [⟨(some 13), .mov (.t 2), [], none⟩,
   ⟨(some 14), .mov (.t 1), [], none⟩,
   ⟨(some 15), .bin .sub (.t 13) (.t 14), [0, 1], none⟩,
   ⟨(some 8), .mov (.t 15), [2, 0, 1, 2], none⟩] [] [2, 13, 14, 15])
 (.seq (.region [⟨(some 9), .alloc .dyn (.int .i64 0), [], none⟩] [] [])
 (.seq (.region [⟨(some 16), .mov (.t 1), [], none⟩,
   ⟨(some 17), .mov (.t 8), [], none⟩,
   ⟨(some 18), .bin .quo (.t 17) (.c (.int .i64 4)), [1], none⟩,
   ⟨(some 19), .bin .mul (.t 18) (.c (.int .i64 1)), [2], none⟩,
   ⟨(some 20), .bin .add (.t 16) (.t 19), [0, 3], none⟩,
   ⟨(some 10), .mov (.t 20), [4, 0, 1, 2, 3, 4], none⟩] [] [16, 17, 18, 19, 20])
 (.seq (.region [⟨(some 21), .mov (.t 1), [], none⟩,
   ⟨(some 22), .mov (.t 8), [], none⟩,
   ⟨(some 23), .bin .quo (.t 22) (.c (.int .i64 4)), [1], none⟩,
   ⟨(some 24), .bin .mul (.t 23) (.c (.int .i64 2)), [2], none⟩,
   ⟨(some 25), .bin .add (.t 21) (.t 24), [0, 3], none⟩,
   ⟨(some 11), .mov (.t 25), [4, 0, 1, 2, 3, 4], none⟩] [] [21, 22, 23, 24, 25])
 (.seq (.region [⟨(some 26), .mov (.t 1), [], none⟩,
   ⟨(some 27), .mov (.t 8), [], none⟩,
   ⟨(some 28), .bin .quo (.t 27) (.c (.int .i64 4)), [1], none⟩,
   ⟨(some 29), .bin .mul (.t 28) (.c (.int .i64 3)), [2], none⟩,
   ⟨(some 30), .bin .add (.t 26) (.t 29), [0, 3], none⟩,
   ⟨(some 12), .mov (.t 30), [4, 0, 1, 2, 3, 4], none⟩] [] [1, 26, 27, 28, 29, 30])
 (.seq (.seq (.region [⟨(some 31), .mov (.t 8), [], none⟩,
   ⟨(some 32), .bin .geq (.t 31) (.c (.int .i64 8)), [0], none⟩] [] [31])
 (.cond (.t 32)
  (.seq (.seq (.region [⟨(some 33), .mov (.t 8), [], none⟩,
    ⟨(some 34), .bin .geq (.t 33) (.c (.int .i64 50)), [0], none⟩] [] [8, 32, 33])
  (.cond (.t 34)
   (.seq (.region [⟨(some 35), .mov (.t 0), [], none⟩,
     ⟨(some 36), .mov (.t 10), [], none⟩,
     ⟨(some 37), .call .heap (.f 109) [(.t 35), (.t 36), (.t 9)], [0, 1], none⟩,
     ⟨(some 10), .mov (.t 37), [2, 2, 0, 1, 2], none⟩] [] [34, 35, 36, 37])
   (.seq (.region [⟨(some 38), .mov (.t 0), [], none⟩,
     ⟨(some 39), .mov (.t 11), [], none⟩,
     ⟨(some 40), .call .heap (.f 109) [(.t 38), (.t 39), (.t 9)], [0, 1], none⟩,
     ⟨(some 11), .mov (.t 40), [2, 2, 0, 1, 2], none⟩] [] [38, 39, 40])
   (.region [⟨(some 41), .mov (.t 0), [], none⟩,
     ⟨(some 42), .mov (.t 12), [], none⟩,
     ⟨(some 43), .call .heap (.f 109) [(.t 41), (.t 42), (.t 9)], [0, 1], none⟩,
     ⟨(some 12), .mov (.t 43), [2, 2, 0, 1, 2], none⟩] [] [41, 42, 43])))
   .skip))
  (.region [⟨(some 44), .mov (.t 0), [], none⟩,
    ⟨(some 45), .mov (.t 10), [], none⟩,
    ⟨(some 46), .mov (.t 11), [], none⟩,
    ⟨(some 47), .mov (.t 12), [], none⟩,
    ⟨(some 48), .call .heap (.f 110) [(.t 44), (.t 45), (.t 46), (.t 47), (.t 9)], [0, 1, 2, 3], none⟩,
    ⟨(some 11), .mov (.t 48), [4, 4, 0, 1, 2, 3, 4], none⟩] [] [0, 10, 12, 34, 44, 45, 46, 47, 48]))
  .skip))
 (.seq (.region [⟨(some 49), .load none (.t 9), [], none⟩] [] [9, 0, 8, 10, 12, 32])
 (.block 0 (.seq (.region [⟨(some 52), .bin .eql (.t 49) (.c (.int .i64 0)), [], none⟩,
   ⟨(some 51), .mov (.t 52), [0], none⟩] [] [52])
 (.cond (.t 51)
  (.seq (.region [⟨(some 53), .mov (.t 11), [], none⟩,
    ⟨(some 6), .mov (.t 53), [0, 0], none⟩,
    ⟨(some 7), .mov (.c (.int .i64 1)), [1, 0, 1], none⟩] [] [11, 49, 51, 53])
  .ret)
  (.seq (.region [⟨(some 55), .bin .eql (.t 49) (.c (.int .i64 12)), [], none⟩,
    ⟨(some 54), .mov (.t 55), [0], none⟩] [] [49, 51, 55])
  (.cond (.t 54)
   (.seq (.region [⟨(some 56), .mov (.t 11), [], none⟩,
     ⟨(some 6), .mov (.t 56), [0, 0], none⟩,
     ⟨(some 7), .mov (.c (.int .i64 2)), [1, 0, 1], none⟩] [] [11, 54, 56])
   .ret)
   (.seq (.region [⟨(some 50), .mov (.t 11), [], none⟩,
     ⟨(some 6), .mov (.t 50), [0, 0], none⟩,
     ⟨(some 7), .mov (.c (.int .i64 0)), [1, 0, 1], none⟩] [] [11, 54, 50])
   .ret))))))))))))))⟩

-- slices.reverseRangeOrdered[int]
def s89 : SFn := ⟨32, [],
 (.seq (.region [⟨(some 8), .mov (.t 1), [], none⟩,
   ⟨(some 6), .mov (.t 8), [0, 0], none⟩] [] [1, 8])
 (.seq (.region [⟨(some 9), .mov (.t 2), [], none⟩,
   ⟨(some 10), .bin .sub (.t 9) (.c (.int .i64 1)), [0], none⟩,
   ⟨(some 7), .mov (.t 10), [1, 0, 1], none⟩] [] [2, 9, 10])
 (.block 0 (.loop (.seq (.seq (.region [⟨(some 11), .mov (.t 6), [], none⟩,
   ⟨(some 12), .mov (.t 7), [], none⟩,
   ⟨(some 13), .bin .lss (.t 11) (.t 12), [0, 1], none⟩] [] [11, 12])
 (.cond (.t 13)
  .skip
  (.exit 0)))
 (.block 1 (.seq (.region [⟨(some 14), .mov (.t 0), [], none⟩,
   ⟨(some 15), .mov (.t 6), [], none⟩,
   ⟨(some 16), .mov (.t 0), [], none⟩,
   ⟨(some 17), .mov (.t 7), [], none⟩,
   ⟨(some 18), .mov (.t 0), [], none⟩,
   ⟨(some 19), .mov (.t 7), [], none⟩,
   ⟨(some 20), .iaddr none 1 (.t 18) (.t 19), [4, 5], none⟩,
   ⟨(some 21), .load none (.t 20), [6], none⟩,
   ⟨(some 22), .mov (.t 0), [], none⟩,
   ⟨(some 23), .mov (.t 6), [], none⟩,
   ⟨(some 24), .iaddr none 1 (.t 22) (.t 23), [8, 9], none⟩,
   ⟨(some 25), .load none (.t 24), [10], none⟩,
   ⟨(some 26), .iaddr none 1 (.t 14) (.t 15), [0, 1, 0, 1, 4, 5, 6, 7, 11], none⟩,
   ⟨none, .store 1 (.t 26) (.t 21), [12, 7, 0, 1, 4, 5, 6, 7, 11], none⟩,
   ⟨(some 27), .iaddr none 1 (.t 16) (.t 17), [2, 3, 0, 1, 2, 3, 4, 5, 6, 7, 8, 9, 10, 11, 12, 13], none⟩,
   ⟨none, .store 1 (.t 27) (.t 25), [14, 11, 13, 0, 1, 2, 3, 4, 5, 6, 7, 8, 9, 10, 11, 12, 13], none⟩] [] [13, 14, 15, 16, 17, 18, 19, 20, 21, 22, 23, 24, 25, 26, 27])
 (.seq (.region [⟨(some 28), .mov (.t 6), [], none⟩,
   ⟨(some 29), .bin .add (.t 28) (.c (.int .i64 1)), [0], none⟩,
   ⟨(some 6), .mov (.t 29), [1, 0, 1], none⟩] [] [28, 29])
 (.region [⟨(some 30), .mov (.t 7), [], none⟩,
   ⟨(some 31), .bin .sub (.t 30) (.c (.int .i64 1)), [0], none⟩,
   ⟨(some 7), .mov (.t 31), [1, 0, 1], none⟩] [] [30, 31])))))))))⟩

-- slices.partialInsertionSortOrdered[int]
def s90 : SFn := ⟨133, [.tmp 6],
 (.seq (.region [⟨(some 6), .mov (.c (.bool false)), [], none⟩] [] [6])
 (.seq (.region [⟨(some 11), .mov (.t 1), [], none⟩,
   ⟨(some 12), .bin .add (.t 11) (.c (.int .i64 1)), [0], none⟩,
   ⟨(some 7), .mov (.t 12), [1, 0, 1], none⟩] [] [11, 12])
 (.seq (.seq (.region [⟨(some 8), .mov (.c (.int .i64 0)), [], none⟩] [] [])
 (.block 0 (.loop (.seq (.seq (.region [⟨(some 13), .mov (.t 8), [], none⟩,
   ⟨(some 14), .bin .lss (.t 13) (.c (.int .i64 5)), [0], none⟩] [] [13])
 (.cond (.t 14)
  .skip
  (.exit 0)))
 (.seq (.block 1 (.seq (.block 2 (.loop (.seq (.seq (.region [⟨(some 17), .mov (.t 7), [], none⟩,
   ⟨(some 18), .mov (.t 2), [], none⟩,
   ⟨(some 19), .bin .lss (.t 17) (.t 18), [0, 1], none⟩,
   ⟨(some 20), .mov (.t 19), [2], none⟩,
   ⟨(some 21), .mov (.t 0), [3], (some (20, true))⟩,
   ⟨(some 22), .mov (.t 7), [3], (some (20, true))⟩,
   ⟨(some 23), .iaddr none 1 (.t 21) (.t 22), [4, 5, 3], (some (20, true))⟩,
   ⟨(some 24), .load none (.t 23), [6, 3], (some (20, true))⟩,
   ⟨(some 25), .mov (.t 0), [3], (some (20, true))⟩,
   ⟨(some 26), .mov (.t 7), [3], (some (20, true))⟩,
   ⟨(some 27), .bin .sub (.t 26) (.c (.int .i64 1)), [9, 3], (some (20, true))⟩,
   ⟨(some 28), .iaddr none 1 (.t 25) (.t 27), [8, 10, 3], (some (20, true))⟩,
   ⟨(some 29), .load none (.t 28), [11, 3], (some (20, true))⟩,
   ⟨(some 30), .call .heap (.f 91) [(.t 24), (.t 29)], [7, 12, 3, 3], (some (20, true))⟩,
   ⟨(some 31), .un .not (.t 30), [13, 3], (some (20, true))⟩,
   ⟨(some 32), .pick (.t 20) (.t 31) (.c (.bool false)), [3, 14], none⟩] [] [14, 17, 18, 19, 20])
 (.cond (.t 32)
  .skip
  (.exit 2)))
 (.block 3 (.region [⟨(some 33), .mov (.t 7), [], none⟩,
   ⟨(some 34), .bin .add (.t 33) (.c (.int .i64 1)), [0], none⟩,
   ⟨(some 7), .mov (.t 34), [1, 0, 1], none⟩] [] [32, 33, 34])))))
 (.seq (.seq (.region [⟨(some 35), .mov (.t 7), [], none⟩,
   ⟨(some 36), .mov (.t 2), [], none⟩,
   ⟨(some 37), .bin .eql (.t 35) (.t 36), [0, 1], none⟩] [] [14, 35, 36])
 (.cond (.t 37)
  (.seq (.region [⟨(some 6), .mov (.c (.bool true)), [], none⟩] [] [0, 1, 2, 7, 8, 31, 30, 24, 29, 28, 25, 27, 26, 23, 21, 22, 37])
  .ret)
  .skip))
 (.seq (.seq (.region [⟨(some 38), .mov (.t 2), [], none⟩,
   ⟨(some 39), .mov (.t 1), [], none⟩,
   ⟨(some 40), .bin .sub (.t 38) (.t 39), [0, 1], none⟩,
   ⟨(some 41), .bin .lss (.t 40) (.c (.int .i64 50)), [2], none⟩] [] [6, 37, 38, 39, 40])
 (.cond (.t 41)
  (.seq (.region [⟨(some 6), .mov (.c (.bool false)), [], none⟩] [] [0, 1, 2, 7, 8, 31, 30, 24, 29, 28, 25, 27, 26, 23, 21, 22, 41])
  .ret)
  .skip))
 (.seq (.region [⟨(some 42), .mov (.t 0), [], none⟩,
   ⟨(some 43), .mov (.t 7), [], none⟩,
   ⟨(some 44), .mov (.t 0), [], none⟩,
   ⟨(some 45), .mov (.t 7), [], none⟩,
   ⟨(some 46), .bin .sub (.t 45) (.c (.int .i64 1)), [3], none⟩,
   ⟨(some 47), .mov (.t 0), [], none⟩,
   ⟨(some 48), .mov (.t 7), [], none⟩,
   ⟨(some 49), .bin .sub (.t 48) (.c (.int .i64 1)), [6], none⟩,
   ⟨(some 50), .iaddr none 1 (.t 47) (.t 49), [5, 7], none⟩,
   ⟨(some 51), .load none (.t 50), [8], none⟩,
   ⟨(some 52), .mov (.t 0), [], none⟩,
   ⟨(some 53), .mov (.t 7), [], none⟩,
   ⟨(some 54), .iaddr none 1 (.t 52) (.t 53), [10, 11], none⟩,
   ⟨(some 55), .load none (.t 54), [12], none⟩,
   ⟨(some 56), .iaddr none 1 (.t 42) (.t 43), [0, 1, 0, 1, 5, 6, 7, 8, 9, 13], none⟩,
   ⟨none, .store 1 (.t 56) (.t 51), [14, 9, 0, 1, 5, 6, 7, 8, 9, 13], none⟩,
   ⟨(some 57), .iaddr none 1 (.t 44) (.t 46), [2, 4, 0, 1, 2, 3, 4, 5, 6, 7, 8, 9, 10, 11, 12, 13, 14, 15], none⟩,
   ⟨none, .store 1 (.t 57) (.t 55), [16, 13, 15, 0, 1, 2, 3, 4, 5, 6, 7, 8, 9, 10, 11, 12, 13, 14, 15], none⟩] [] [6, 41, 42, 43, 44, 45, 46, 47, 48, 49, 50, 51, 52, 53, 54, 55, 56, 57])
 (.seq (.seq (.region [⟨(some 58), .mov (.t 7), [], none⟩,
   ⟨(some 59), .mov (.t 1), [], none⟩,
   ⟨(some 60), .bin .sub (.t 58) (.t 59), [0, 1], none⟩,
   ⟨(some 61), .bin .geq (.t 60) (.c (.int .i64 2)), [2], none⟩] [] [58, 59, 60])
 (.cond (.t 61)
  (.seq (.region [⟨(some 62), .mov (.t 7), [], none⟩,
    ⟨(some 63), .bin .sub (.t 62) (.c (.int .i64 1)), [0], none⟩,
    ⟨(some 9), .mov (.t 63), [1, 0, 1], none⟩] [] [61, 62, 63])
  (.block 4 (.loop (.seq (.seq (.region [⟨(some 64), .mov (.t 9), [], none⟩,
    ⟨(some 65), .bin .geq (.t 64) (.c (.int .i64 1)), [0], none⟩] [] [64])
  (.cond (.t 65)
   .skip
   (.exit 4)))
  (.seq (.block 5 (.seq (.seq (.region [⟨(some 68), .mov (.t 0), [], none⟩,
    ⟨(some 69), .mov (.t 9), [], none⟩,
    ⟨(some 70), .iaddr none 1 (.t 68) (.t 69), [0, 1], none⟩,
    ⟨(some 71), .load none (.t 70), [2], none⟩,
    ⟨(some 72), .mov (.t 0), [], none⟩,
    ⟨(some 73), .mov (.t 9), [], none⟩,
    ⟨(some 74), .bin .sub (.t 73) (.c (.int .i64 1)), [5], none⟩,
    ⟨(some 75), .iaddr none 1 (.t 72) (.t 74), [4, 6], none⟩,
    ⟨(some 76), .load none (.t 75), [7], none⟩,
    ⟨(some 77), .call .heap (.f 91) [(.t 71), (.t 76)], [3, 8], none⟩,
    ⟨(some 78), .un .not (.t 77), [9], none⟩] [] [65, 68, 69, 70, 71, 72, 73, 74, 75, 76, 77])
  (.cond (.t 78)
   (.exit 4)
   .skip))
  (.region [⟨(some 79), .mov (.t 0), [], none⟩,
    ⟨(some 80), .mov (.t 9), [], none⟩,
    ⟨(some 81), .mov (.t 0), [], none⟩,
    ⟨(some 82), .mov (.t 9), [], none⟩,
    ⟨(some 83), .bin .sub (.t 82) (.c (.int .i64 1)), [3], none⟩,
    ⟨(some 84), .mov (.t 0), [], none⟩,
    ⟨(some 85), .mov (.t 9), [], none⟩,
    ⟨(some 86), .bin .sub (.t 85) (.c (.int .i64 1)), [6], none⟩,
    ⟨(some 87), .iaddr none 1 (.t 84) (.t 86), [5, 7], none⟩,
    ⟨(some 88), .load none (.t 87), [8], none⟩,
    ⟨(some 89), .mov (.t 0), [], none⟩,
    ⟨(some 90), .mov (.t 9), [], none⟩,
    ⟨(some 91), .iaddr none 1 (.t 89) (.t 90), [10, 11], none⟩,
    ⟨(some 92), .load none (.t 91), [12], none⟩,
    ⟨(some 93), .iaddr none 1 (.t 79) (.t 80), [0, 1, 0, 1, 5, 6, 7, 8, 9, 13], none⟩,
    ⟨none, .store 1 (.t 93) (.t 88), [14, 9, 0, 1, 5, 6, 7, 8, 9, 13], none⟩,
    ⟨(some 94), .iaddr none 1 (.t 81) (.t 83), [2, 4, 0, 1, 2, 3, 4, 5, 6, 7, 8, 9, 10, 11, 12, 13, 14, 15], none⟩,
    ⟨none, .store 1 (.t 94) (.t 92), [16, 13, 15, 0, 1, 2, 3, 4, 5, 6, 7, 8, 9, 10, 11, 12, 13, 14, 15], none⟩] [] [78, 79, 80, 81, 82, 83, 84, 85, 86, 87, 88, 89, 90, 91, 92, 93, 94])))
  (.region [⟨(some 66), .mov (.t 9), [], none⟩,
    ⟨(some 67), .bin .sub (.t 66) (.c (.int .i64 1)), [0], none⟩,
    ⟨(some 9), .mov (.t 67), [1, 0, 1], none⟩] [] [66, 67]))))))
  .skip))
 (.seq (.region [⟨(some 95), .mov (.t 2), [], none⟩,
   ⟨(some 96), .mov (.t 7), [], none⟩,
   ⟨(some 97), .bin .sub (.t 95) (.t 96), [0, 1], none⟩,
   ⟨(some 98), .bin .geq (.t 97) (.c (.int .i64 2)), [2], none⟩] [] [9, 61, 95, 96, 97])
 (.cond (.t 98)
  (.seq (.region [⟨(some 99), .mov (.t 7), [], none⟩,
    ⟨(some 100), .bin .add (.t 99) (.c (.int .i64 1)), [0], none⟩,
    ⟨(some 10), .mov (.t 100), [1, 0, 1], none⟩] [] [98, 99, 100])
  (.block 6 (.loop (.seq (.seq (.region [⟨(some 101), .mov (.t 10), [], none⟩,
    ⟨(some 102), .mov (.t 2), [], none⟩,
    ⟨(some 103), .bin .lss (.t 101) (.t 102), [0, 1], none⟩] [] [101, 102])
  (.cond (.t 103)
   .skip
   (.exit 6)))
  (.seq (.block 7 (.seq (.seq (.region [⟨(some 106), .mov (.t 0), [], none⟩,
    ⟨(some 107), .mov (.t 10), [], none⟩,
    ⟨(some 108), .iaddr none 1 (.t 106) (.t 107), [0, 1], none⟩,
    ⟨(some 109), .load none (.t 108), [2], none⟩,
    ⟨(some 110), .mov (.t 0), [], none⟩,
    ⟨(some 111), .mov (.t 10), [], none⟩,
    ⟨(some 112), .bin .sub (.t 111) (.c (.int .i64 1)), [5], none⟩,
    ⟨(some 113), .iaddr none 1 (.t 110) (.t 112), [4, 6], none⟩,
    ⟨(some 114), .load none (.t 113), [7], none⟩,
    ⟨(some 115), .call .heap (.f 91) [(.t 109), (.t 114)], [3, 8], none⟩,
    ⟨(some 116), .un .not (.t 115), [9], none⟩] [] [103, 106, 107, 108, 109, 110, 111, 112, 113, 114, 115])
  (.cond (.t 116)
   (.exit 6)
   .skip))
  (.region [⟨(some 117), .mov (.t 0), [], none⟩,
    ⟨(some 118), .mov (.t 10), [], none⟩,
    ⟨(some 119), .mov (.t 0), [], none⟩,
    ⟨(some 120), .mov (.t 10), [], none⟩,
    ⟨(some 121), .bin .sub (.t 120) (.c (.int .i64 1)), [3], none⟩,
    ⟨(some 122), .mov (.t 0), [], none⟩,
    ⟨(some 123), .mov (.t 10), [], none⟩,
    ⟨(some 124), .bin .sub (.t 123) (.c (.int .i64 1)), [6], none⟩,
    ⟨(some 125), .iaddr none 1 (.t 122) (.t 124), [5, 7], none⟩,
    ⟨(some 126), .load none (.t 125), [8], none⟩,
    ⟨(some 127), .mov (.t 0), [], none⟩,
    ⟨(some 128), .mov (.t 10), [], none⟩,
    ⟨(some 129), .iaddr none 1 (.t 127) (.t 128), [10, 11], none⟩,
    ⟨(some 130), .load none (.t 129), [12], none⟩,
    ⟨(some 131), .iaddr none 1 (.t 117) (.t 118), [0, 1, 0, 1, 5, 6, 7, 8, 9, 13], none⟩,
    ⟨none, .store 1 (.t 131) (.t 126), [14, 9, 0, 1, 5, 6, 7, 8, 9, 13], none⟩,
    ⟨(some 132), .iaddr none 1 (.t 119) (.t 121), [2, 4, 0, 1, 2, 3, 4, 5, 6, 7, 8, 9, 10, 11, 12, 13, 14, 15], none⟩,
    ⟨none, .store 1 (.t 132) (.t 130), [16, 13, 15, 0, 1, 2, 3, 4, 5, 6, 7, 8, 9, 10, 11, 12, 13, 14, 15], none⟩] [] [116, 117, 118, 119, 120, 121, 122, 123, 124, 125, 126, 127, 128, 129, 130, 131, 132])))
  (.region [⟨(some 104), .mov (.t 10), [], none⟩,
    ⟨(some 105), .bin .add (.t 104) (.c (.int .i64 1)), [0], none⟩,
    ⟨(some 10), .mov (.t 105), [1, 0, 1], none⟩] [] [104, 105]))))))
  .skip))))))))
 (.region [⟨(some 15), .mov (.t 8), [], none⟩,
   ⟨(some 16), .bin .add (.t 15) (.c (.int .i64 1)), [0], none⟩,
   ⟨(some 8), .mov (.t 16), [1, 0, 1], none⟩] [] [10, 98, 15, 16]))))))
 (.seq (.region [⟨(some 6), .mov (.c (.bool false)), [], none⟩] [] [0, 1, 2, 7, 8, 31, 30, 24, 29, 28, 25, 27, 26, 23, 21, 22])
 .ret))))⟩

-- cmp.Less[int]
def s91 : SFn := ⟨17, [.tmp 4],
 (.seq (.region [⟨(some 4), .mov (.c (.bool false)), [], none⟩] [] [4])
 (.seq (.region [⟨(some 5), .mov (.t 0), [], none⟩,
   ⟨(some 6), .call .heap (.f 111) [(.t 5)], [0], none⟩,
   ⟨(some 7), .mov (.t 6), [1, 1], none⟩,
   ⟨(some 8), .mov (.t 1), [2], (some (7, true))⟩,
   ⟨(some 9), .call .heap (.f 111) [(.t 8)], [3, 2, 2], (some (7, true))⟩,
   ⟨(some 10), .un .not (.t 9), [4, 2], (some (7, true))⟩,
   ⟨(some 11), .pick (.t 7) (.t 10) (.c (.bool false)), [2, 5], none⟩,
   ⟨(some 12), .mov (.t 11), [6, 4], none⟩,
   ⟨(some 13), .mov (.t 0), [7], (some (12, false))⟩,
   ⟨(some 14), .mov (.t 1), [7], (some (12, false))⟩,
   ⟨(some 15), .bin .lss (.t 13) (.t 14), [8, 9, 7], (some (12, false))⟩,
   ⟨(some 16), .pick (.t 12) (.c (.bool true)) (.t 15), [7, 10], none⟩,
   ⟨(some 4), .mov (.t 16), [11, 7, 0, 1, 2, 3, 4, 5, 6, 7, 8, 9, 10, 11], none⟩] [] [0, 1, 5, 6, 7, 8, 9, 10, 11, 12, 13, 14, 15, 16])
 .ret))⟩

-- slices.partitionEqualOrdered[int]
def s92 : SFn := ⟨84, [.tmp 8],
 (.seq (.region [⟨(some 8), .mov (.c (.int .i64 0)), [], none⟩] [] [8])
 (.seq (.region [⟨(some 11), .mov (.t 0), [], none⟩,
   ⟨(some 12), .mov (.t 1), [], none⟩,
   ⟨(some 13), .mov (.t 0), [], none⟩,
   ⟨(some 14), .mov (.t 3), [], none⟩,
   ⟨(some 15), .mov (.t 0), [], none⟩,
   ⟨(some 16), .mov (.t 3), [], none⟩,
   ⟨(some 17), .iaddr none 1 (.t 15) (.t 16), [4, 5], none⟩,
   ⟨(some 18), .load none (.t 17), [6], none⟩,
   ⟨(some 19), .mov (.t 0), [], none⟩,
   ⟨(some 20), .mov (.t 1), [], none⟩,
   ⟨(some 21), .iaddr none 1 (.t 19) (.t 20), [8, 9], none⟩,
   ⟨(some 22), .load none (.t 21), [10], none⟩,
   ⟨(some 23), .iaddr none 1 (.t 11) (.t 12), [0, 1, 0, 1, 4, 5, 6, 7, 11], none⟩,
   ⟨none, .store 1 (.t 23) (.t 18), [12, 7, 0, 1, 4, 5, 6, 7, 11], none⟩,
   ⟨(some 24), .iaddr none 1 (.t 13) (.t 14), [2, 3, 0, 1, 2, 3, 4, 5, 6, 7, 8, 9, 10, 11, 12, 13], none⟩,
   ⟨none, .store 1 (.t 24) (.t 22), [14, 11, 13, 0, 1, 2, 3, 4, 5, 6, 7, 8, 9, 10, 11, 12, 13], none⟩] [] [3, 11, 12, 13, 14, 15, 16, 17, 18, 19, 20, 21, 22, 23, 24])
 (.seq (.region [⟨(some 25), .mov (.t 1), [], none⟩,
   ⟨(some 26), .bin .add (.t 25) (.c (.int .i64 1)), [0], none⟩,
   ⟨(some 27), .mov (.t 2), [], none⟩,
   ⟨(some 28), .bin .sub (.t 27) (.c (.int .i64 1)), [2], none⟩,
   ⟨(some 9), .mov (.t 26), [1, 0, 1], none⟩,
   ⟨(some 10), .mov (.t 28), [3, 4, 0, 1, 2, 3, 4], none⟩] [] [2, 25, 26, 27, 28])
 (.seq (.block 0 (.loop (.block 1 (.seq (.block 2 (.loop (.seq (.seq (.region [⟨(some 29), .mov (.t 9), [], none⟩,
   ⟨(some 30), .mov (.t 10), [], none⟩,
   ⟨(some 31), .bin .leq (.t 29) (.t 30), [0, 1], none⟩,
   ⟨(some 32), .mov (.t 31), [2], none⟩,
   ⟨(some 33), .mov (.t 0), [3], (some (32, true))⟩,
   ⟨(some 34), .mov (.t 1), [3], (some (32, true))⟩,
   ⟨(some 35), .iaddr none 1 (.t 33) (.t 34), [4, 5, 3], (some (32, true))⟩,
   ⟨(some 36), .load none (.t 35), [6, 3], (some (32, true))⟩,
   ⟨(some 37), .mov (.t 0), [3], (some (32, true))⟩,
   ⟨(some 38), .mov (.t 9), [3], (some (32, true))⟩,
   ⟨(some 39), .iaddr none 1 (.t 37) (.t 38), [8, 9, 3], (some (32, true))⟩,
   ⟨(some 40), .load none (.t 39), [10, 3], (some (32, true))⟩,
   ⟨(some 41), .call .heap (.f 91) [(.t 36), (.t 40)], [7, 11, 3, 3], (some (32, true))⟩,
   ⟨(some 42), .un .not (.t 41), [12, 3], (some (32, true))⟩,
   ⟨(some 43), .pick (.t 32) (.t 42) (.c (.bool false)), [3, 13], none⟩] [] [29, 30, 31, 32])
 (.cond (.t 43)
  .skip
  (.exit 2)))
 (.block 3 (.region [⟨(some 44), .mov (.t 9), [], none⟩,
   ⟨(some 45), .bin .add (.t 44) (.c (.int .i64 1)), [0], none⟩,
   ⟨(some 9), .mov (.t 45), [1, 0, 1], none⟩] [] [43, 44, 45])))))
 (.seq (.block 4 (.loop (.seq (.seq (.region [⟨(some 46), .mov (.t 9), [], none⟩,
   ⟨(some 47), .mov (.t 10), [], none⟩,
   ⟨(some 48), .bin .leq (.t 46) (.t 47), [0, 1], none⟩,
   ⟨(some 49), .mov (.t 48), [2], none⟩,
   ⟨(some 50), .mov (.t 0), [3], (some (49, true))⟩,
   ⟨(some 51), .mov (.t 1), [3], (some (49, true))⟩,
   ⟨(some 52), .iaddr none 1 (.t 50) (.t 51), [4, 5, 3], (some (49, true))⟩,
   ⟨(some 53), .load none (.t 52), [6, 3], (some (49, true))⟩,
   ⟨(some 54), .mov (.t 0), [3], (some (49, true))⟩,
   ⟨(some 55), .mov (.t 10), [3], (some (49, true))⟩,
   ⟨(some 56), .iaddr none 1 (.t 54) (.t 55), [8, 9, 3], (some (49, true))⟩,
   ⟨(some 57), .load none (.t 56), [10, 3], (some (49, true))⟩,
   ⟨(some 58), .call .heap (.f 91) [(.t 53), (.t 57)], [7, 11, 3, 3], (some (49, true))⟩,
   ⟨(some 59), .pick (.t 49) (.t 58) (.c (.bool false)), [3, 12], none⟩] [] [46, 47, 48, 49])
 (.cond (.t 59)
  .skip
  (.exit 4)))
 (.block 5 (.region [⟨(some 60), .mov (.t 10), [], none⟩,
   ⟨(some 61), .bin .sub (.t 60) (.c (.int .i64 1)), [0], none⟩,
   ⟨(some 10), .mov (.t 61), [1, 0, 1], none⟩] [] [59, 60, 61])))))
 (.seq (.seq (.region [⟨(some 62), .mov (.t 9), [], none⟩,
   ⟨(some 63), .mov (.t 10), [], none⟩,
   ⟨(some 64), .bin .gtr (.t 62) (.t 63), [0, 1], none⟩] [] [62, 63])
 (.cond (.t 64)
  (.exit 0)
  .skip))
 (.seq (.region [⟨(some 65), .mov (.t 0), [], none⟩,
   ⟨(some 66), .mov (.t 9), [], none⟩,
   ⟨(some 67), .mov (.t 0), [], none⟩,
   ⟨(some 68), .mov (.t 10), [], none⟩,
   ⟨(some 69), .mov (.t 0), [], none⟩,
   ⟨(some 70), .mov (.t 10), [], none⟩,
   ⟨(some 71), .iaddr none 1 (.t 69) (.t 70), [4, 5], none⟩,
   ⟨(some 72), .load none (.t 71), [6], none⟩,
   ⟨(some 73), .mov (.t 0), [], none⟩,
   ⟨(some 74), .mov (.t 9), [], none⟩,
   ⟨(some 75), .iaddr none 1 (.t 73) (.t 74), [8, 9], none⟩,
   ⟨(some 76), .load none (.t 75), [10], none⟩,
   ⟨(some 77), .iaddr none 1 (.t 65) (.t 66), [0, 1, 0, 1, 4, 5, 6, 7, 11], none⟩,
   ⟨none, .store 1 (.t 77) (.t 72), [12, 7, 0, 1, 4, 5, 6, 7, 11], none⟩,
   ⟨(some 78), .iaddr none 1 (.t 67) (.t 68), [2, 3, 0, 1, 2, 3, 4, 5, 6, 7, 8, 9, 10, 11, 12, 13], none⟩,
   ⟨none, .store 1 (.t 78) (.t 76), [14, 11, 13, 0, 1, 2, 3, 4, 5, 6, 7, 8, 9, 10, 11, 12, 13], none⟩] [] [64, 65, 66, 67, 68, 69, 70, 71, 72, 73, 74, 75, 76, 77, 78])
 (.seq (.region [⟨(some 79), .mov (.t 9), [], none⟩,
   ⟨(some 80), .bin .add (.t 79) (.c (.int .i64 1)), [0], none⟩,
   ⟨(some 9), .mov (.t 80), [1, 0, 1], none⟩] [] [79, 80])
 (.region [⟨(some 81), .mov (.t 10), [], none⟩,
   ⟨(some 82), .bin .sub (.t 81) (.c (.int .i64 1)), [0], none⟩,
   ⟨(some 10), .mov (.t 82), [1, 0, 1], none⟩] [] [81, 82])))))))))
 (.seq (.region [⟨(some 83), .mov (.t 9), [], none⟩,
   ⟨(some 8), .mov (.t 83), [0, 0], none⟩] [] [0, 1, 9, 10, 58, 53, 57, 56, 54, 55, 52, 50, 51, 42, 41, 36, 40, 39, 37, 38, 35, 33, 34, 83])
 .ret)))))⟩

-- slices.partitionOrdered[int]
def s93 : SFn := ⟨168, [.tmp 8, .tmp 9],
 (.seq (.region [⟨(some 8), .mov (.c (.int .i64 0)), [], none⟩,
   ⟨(some 9), .mov (.c (.bool false)), [0], none⟩] [] [8, 9])
 (.seq (.region [⟨(some 12), .mov (.t 0), [], none⟩,
   ⟨(some 13), .mov (.t 1), [], none⟩,
   ⟨(some 14), .mov (.t 0), [], none⟩,
   ⟨(some 15), .mov (.t 3), [], none⟩,
   ⟨(some 16), .mov (.t 0), [], none⟩,
   ⟨(some 17), .mov (.t 3), [], none⟩,
   ⟨(some 18), .iaddr none 1 (.t 16) (.t 17), [4, 5], none⟩,
   ⟨(some 19), .load none (.t 18), [6], none⟩,
   ⟨(some 20), .mov (.t 0), [], none⟩,
   ⟨(some 21), .mov (.t 1), [], none⟩,
   ⟨(some 22), .iaddr none 1 (.t 20) (.t 21), [8, 9], none⟩,
   ⟨(some 23), .load none (.t 22), [10], none⟩,
   ⟨(some 24), .iaddr none 1 (.t 12) (.t 13), [0, 1, 0, 1, 4, 5, 6, 7, 11], none⟩,
   ⟨none, .store 1 (.t 24) (.t 19), [12, 7, 0, 1, 4, 5, 6, 7, 11], none⟩,
   ⟨(some 25), .iaddr none 1 (.t 14) (.t 15), [2, 3, 0, 1, 2, 3, 4, 5, 6, 7, 8, 9, 10, 11, 12, 13], none⟩,
   ⟨none, .store 1 (.t 25) (.t 23), [14, 11, 13, 0, 1, 2, 3, 4, 5, 6, 7, 8, 9, 10, 11, 12, 13], none⟩] [] [3, 12, 13, 14, 15, 16, 17, 18, 19, 20, 21, 22, 23, 24, 25])
 (.seq (.region [⟨(some 26), .mov (.t 1), [], none⟩,
   ⟨(some 27), .bin .add (.t 26) (.c (.int .i64 1)), [0], none⟩,
   ⟨(some 28), .mov (.t 2), [], none⟩,
   ⟨(some 29), .bin .sub (.t 28) (.c (.int .i64 1)), [2], none⟩,
   ⟨(some 10), .mov (.t 27), [1, 0, 1], none⟩,
   ⟨(some 11), .mov (.t 29), [3, 4, 0, 1, 2, 3, 4], none⟩] [] [2, 26, 27, 28, 29])
 (.seq (.block 0 (.loop (.seq (.seq (.region [⟨(some 30), .mov (.t 10), [], none⟩,
   ⟨(some 31), .mov (.t 11), [], none⟩,
   ⟨(some 32), .bin .leq (.t 30) (.t 31), [0, 1], none⟩,
   ⟨(some 33), .mov (.t 32), [2], none⟩,
   ⟨(some 34), .mov (.t 0), [3], (some (33, true))⟩,
   ⟨(some 35), .mov (.t 10), [3], (some (33, true))⟩,
   ⟨(some 36), .iaddr none 1 (.t 34) (.t 35), [4, 5, 3], (some (33, true))⟩,
   ⟨(some 37), .load none (.t 36), [6, 3], (some (33, true))⟩,
   ⟨(some 38), .mov (.t 0), [3], (some (33, true))⟩,
   ⟨(some 39), .mov (.t 1), [3], (some (33, true))⟩,
   ⟨(some 40), .iaddr none 1 (.t 38) (.t 39), [8, 9, 3], (some (33, true))⟩,
   ⟨(some 41), .load none (.t 40), [10, 3], (some (33, true))⟩,
   ⟨(some 42), .call .heap (.f 91) [(.t 37), (.t 41)], [7, 11, 3, 3], (some (33, true))⟩,
   ⟨(some 43), .pick (.t 33) (.t 42) (.c (.bool false)), [3, 12], none⟩] [] [30, 31, 32, 33])
 (.cond (.t 43)
  .skip
  (.exit 0)))
 (.block 1 (.region [⟨(some 44), .mov (.t 10), [], none⟩,
   ⟨(some 45), .bin .add (.t 44) (.c (.int .i64 1)), [0], none⟩,
   ⟨(some 10), .mov (.t 45), [1, 0, 1], none⟩] [] [43, 44, 45])))))
 (.seq (.block 2 (.loop (.seq (.seq (.region [⟨(some 46), .mov (.t 10), [], none⟩,
   ⟨(some 47), .mov (.t 11), [], none⟩,
   ⟨(some 48), .bin .leq (.t 46) (.t 47), [0, 1], none⟩,
   ⟨(some 49), .mov (.t 48), [2], none⟩,
   ⟨(some 50), .mov (.t 0), [3], (some (49, true))⟩,
   ⟨(some 51), .mov (.t 11), [3], (some (49, true))⟩,
   ⟨(some 52), .iaddr none 1 (.t 50) (.t 51), [4, 5, 3], (some (49, true))⟩,
   ⟨(some 53), .load none (.t 52), [6, 3], (some (49, true))⟩,
   ⟨(some 54), .mov (.t 0), [3], (some (49, true))⟩,
   ⟨(some 55), .mov (.t 1), [3], (some (49, true))⟩,
   ⟨(some 56), .iaddr none 1 (.t 54) (.t 55), [8, 9, 3], (some (49, true))⟩,
   ⟨(some 57), .load none (.t 56), [10, 3], (some (49, true))⟩,
   ⟨(some 58), .call .heap (.f 91) [(.t 53), (.t 57)], [7, 11, 3, 3], (some (49, true))⟩,
   ⟨(some 59), .un .not (.t 58), [12, 3], (some (49, true))⟩,
   ⟨(some 60), .pick (.t 49) (.t 59) (.c (.bool false)), [3, 13], none⟩] [] [42, 37, 41, 40, 38, 39, 36, 34, 35, 46, 47, 48, 49])
 (.cond (.t 60)
  .skip
  (.exit 2)))
 (.block 3 (.region [⟨(some 61), .mov (.t 11), [], none⟩,
   ⟨(some 62), .bin .sub (.t 61) (.c (.int .i64 1)), [0], none⟩,
   ⟨(some 11), .mov (.t 62), [1, 0, 1], none⟩] [] [60, 61, 62])))))
 (.seq (.seq (.region [⟨(some 63), .mov (.t 10), [], none⟩,
   ⟨(some 64), .mov (.t 11), [], none⟩,
   ⟨(some 65), .bin .gtr (.t 63) (.t 64), [0, 1], none⟩] [] [59, 58, 53, 57, 56, 54, 55, 52, 50, 51, 42, 37, 41, 40, 38, 39, 36, 34, 35, 63, 64])
 (.cond (.t 65)
  (.seq (.region [⟨(some 66), .mov (.t 0), [], none⟩,
    ⟨(some 67), .mov (.t 11), [], none⟩,
    ⟨(some 68), .mov (.t 0), [], none⟩,
    ⟨(some 69), .mov (.t 1), [], none⟩,
    ⟨(some 70), .mov (.t 0), [], none⟩,
    ⟨(some 71), .mov (.t 1), [], none⟩,
    ⟨(some 72), .iaddr none 1 (.t 70) (.t 71), [4, 5], none⟩,
    ⟨(some 73), .load none (.t 72), [6], none⟩,
    ⟨(some 74), .mov (.t 0), [], none⟩,
    ⟨(some 75), .mov (.t 11), [], none⟩,
    ⟨(some 76), .iaddr none 1 (.t 74) (.t 75), [8, 9], none⟩,
    ⟨(some 77), .load none (.t 76), [10], none⟩,
    ⟨(some 78), .iaddr none 1 (.t 66) (.t 67), [0, 1, 0, 1, 4, 5, 6, 7, 11], none⟩,
    ⟨none, .store 1 (.t 78) (.t 73), [12, 7, 0, 1, 4, 5, 6, 7, 11], none⟩,
    ⟨(some 79), .iaddr none 1 (.t 68) (.t 69), [2, 3, 0, 1, 2, 3, 4, 5, 6, 7, 8, 9, 10, 11, 12, 13], none⟩,
    ⟨none, .store 1 (.t 79) (.t 77), [14, 11, 13, 0, 1, 2, 3, 4, 5, 6, 7, 8, 9, 10, 11, 12, 13], none⟩] [] [0, 1, 10, 128, 127, 122, 126, 125, 123, 124, 121, 119, 120, 111, 106, 110, 109, 107, 108, 105, 103, 104, 65, 66, 67, 68, 69, 70, 71, 72, 73, 74, 75, 76, 77, 78, 79])
  (.seq (.region [⟨(some 80), .mov (.t 11), [], none⟩,
    ⟨(some 8), .mov (.t 80), [0, 0], none⟩,
    ⟨(some 9), .mov (.c (.bool true)), [1, 0, 1], none⟩] [] [11, 80])
  .ret))
  .skip))
 (.seq (.region [⟨(some 81), .mov (.t 0), [], none⟩,
   ⟨(some 82), .mov (.t 10), [], none⟩,
   ⟨(some 83), .mov (.t 0), [], none⟩,
   ⟨(some 84), .mov (.t 11), [], none⟩,
   ⟨(some 85), .mov (.t 0), [], none⟩,
   ⟨(some 86), .mov (.t 11), [], none⟩,
   ⟨(some 87), .iaddr none 1 (.t 85) (.t 86), [4, 5], none⟩,
   ⟨(some 88), .load none (.t 87), [6], none⟩,
   ⟨(some 89), .mov (.t 0), [], none⟩,
   ⟨(some 90), .mov (.t 10), [], none⟩,
   ⟨(some 91), .iaddr none 1 (.t 89) (.t 90), [8, 9], none⟩,
   ⟨(some 92), .load none (.t 91), [10], none⟩,
   ⟨(some 93), .iaddr none 1 (.t 81) (.t 82), [0, 1, 0, 1, 4, 5, 6, 7, 11], none⟩,
   ⟨none, .store 1 (.t 93) (.t 88), [12, 7, 0, 1, 4, 5, 6, 7, 11], none⟩,
   ⟨(some 94), .iaddr none 1 (.t 83) (.t 84), [2, 3, 0, 1, 2, 3, 4, 5, 6, 7, 8, 9, 10, 11, 12, 13], none⟩,
   ⟨none, .store 1 (.t 94) (.t 92), [14, 11, 13, 0, 1, 2, 3, 4, 5, 6, 7, 8, 9, 10, 11, 12, 13], none⟩] [] [8, 9, 65, 81, 82, 83, 84, 85, 86, 87, 88, 89, 90, 91, 92, 93, 94])
 (.seq (.region [⟨(some 95), .mov (.t 10), [], none⟩,
   ⟨(some 96), .bin .add (.t 95) (.c (.int .i64 1)), [0], none⟩,
   ⟨(some 10), .mov (.t 96), [1, 0, 1], none⟩] [] [95, 96])
 (.seq (.region [⟨(some 97), .mov (.t 11), [], none⟩,
   ⟨(some 98), .bin .sub (.t 97) (.c (.int .i64 1)), [0], none⟩,
   ⟨(some 11), .mov (.t 98), [1, 0, 1], none⟩] [] [97, 98])
 (.seq (.block 4 (.loop (.block 5 (.seq (.block 6 (.loop (.seq (.seq (.region [⟨(some 99), .mov (.t 10), [], none⟩,
   ⟨(some 100), .mov (.t 11), [], none⟩,
   ⟨(some 101), .bin .leq (.t 99) (.t 100), [0, 1], none⟩,
   ⟨(some 102), .mov (.t 101), [2], none⟩,
   ⟨(some 103), .mov (.t 0), [3], (some (102, true))⟩,
   ⟨(some 104), .mov (.t 10), [3], (some (102, true))⟩,
   ⟨(some 105), .iaddr none 1 (.t 103) (.t 104), [4, 5, 3], (some (102, true))⟩,
   ⟨(some 106), .load none (.t 105), [6, 3], (some (102, true))⟩,
   ⟨(some 107), .mov (.t 0), [3], (some (102, true))⟩,
   ⟨(some 108), .mov (.t 1), [3], (some (102, true))⟩,
   ⟨(some 109), .iaddr none 1 (.t 107) (.t 108), [8, 9, 3], (some (102, true))⟩,
   ⟨(some 110), .load none (.t 109), [10, 3], (some (102, true))⟩,
   ⟨(some 111), .call .heap (.f 91) [(.t 106), (.t 110)], [7, 11, 3, 3], (some (102, true))⟩,
   ⟨(some 112), .pick (.t 102) (.t 111) (.c (.bool false)), [3, 12], none⟩] [] [99, 100, 101, 102])
 (.cond (.t 112)
  .skip
  (.exit 6)))
 (.block 7 (.region [⟨(some 113), .mov (.t 10), [], none⟩,
   ⟨(some 114), .bin .add (.t 113) (.c (.int .i64 1)), [0], none⟩,
   ⟨(some 10), .mov (.t 114), [1, 0, 1], none⟩] [] [112, 113, 114])))))
 (.seq (.block 8 (.loop (.seq (.seq (.region [⟨(some 115), .mov (.t 10), [], none⟩,
   ⟨(some 116), .mov (.t 11), [], none⟩,
   ⟨(some 117), .bin .leq (.t 115) (.t 116), [0, 1], none⟩,
   ⟨(some 118), .mov (.t 117), [2], none⟩,
   ⟨(some 119), .mov (.t 0), [3], (some (118, true))⟩,
   ⟨(some 120), .mov (.t 11), [3], (some (118, true))⟩,
   ⟨(some 121), .iaddr none 1 (.t 119) (.t 120), [4, 5, 3], (some (118, true))⟩,
   ⟨(some 122), .load none (.t 121), [6, 3], (some (118, true))⟩,
   ⟨(some 123), .mov (.t 0), [3], (some (118, true))⟩,
   ⟨(some 124), .mov (.t 1), [3], (some (118, true))⟩,
   ⟨(some 125), .iaddr none 1 (.t 123) (.t 124), [8, 9, 3], (some (118, true))⟩,
   ⟨(some 126), .load none (.t 125), [10, 3], (some (118, true))⟩,
   ⟨(some 127), .call .heap (.f 91) [(.t 122), (.t 126)], [7, 11, 3, 3], (some (118, true))⟩,
   ⟨(some 128), .un .not (.t 127), [12, 3], (some (118, true))⟩,
   ⟨(some 129), .pick (.t 118) (.t 128) (.c (.bool false)), [3, 13], none⟩] [] [115, 116, 117, 118])
 (.cond (.t 129)
  .skip
  (.exit 8)))
 (.block 9 (.region [⟨(some 130), .mov (.t 11), [], none⟩,
   ⟨(some 131), .bin .sub (.t 130) (.c (.int .i64 1)), [0], none⟩,
   ⟨(some 11), .mov (.t 131), [1, 0, 1], none⟩] [] [129, 130, 131])))))
 (.seq (.seq (.region [⟨(some 132), .mov (.t 10), [], none⟩,
   ⟨(some 133), .mov (.t 11), [], none⟩,
   ⟨(some 134), .bin .gtr (.t 132) (.t 133), [0, 1], none⟩] [] [132, 133])
 (.cond (.t 134)
  (.exit 4)
  .skip))
 (.seq (.region [⟨(some 135), .mov (.t 0), [], none⟩,
   ⟨(some 136), .mov (.t 10), [], none⟩,
   ⟨(some 137), .mov (.t 0), [], none⟩,
   ⟨(some 138), .mov (.t 11), [], none⟩,
   ⟨(some 139), .mov (.t 0), [], none⟩,
   ⟨(some 140), .mov (.t 11), [], none⟩,
   ⟨(some 141), .iaddr none 1 (.t 139) (.t 140), [4, 5], none⟩,
   ⟨(some 142), .load none (.t 141), [6], none⟩,
   ⟨(some 143), .mov (.t 0), [], none⟩,
   ⟨(some 144), .mov (.t 10), [], none⟩,
   ⟨(some 145), .iaddr none 1 (.t 143) (.t 144), [8, 9], none⟩,
   ⟨(some 146), .load none (.t 145), [10], none⟩,
   ⟨(some 147), .iaddr none 1 (.t 135) (.t 136), [0, 1, 0, 1, 4, 5, 6, 7, 11], none⟩,
   ⟨none, .store 1 (.t 147) (.t 142), [12, 7, 0, 1, 4, 5, 6, 7, 11], none⟩,
   ⟨(some 148), .iaddr none 1 (.t 137) (.t 138), [2, 3, 0, 1, 2, 3, 4, 5, 6, 7, 8, 9, 10, 11, 12, 13], none⟩,
   ⟨none, .store 1 (.t 148) (.t 146), [14, 11, 13, 0, 1, 2, 3, 4, 5, 6, 7, 8, 9, 10, 11, 12, 13], none⟩] [] [134, 135, 136, 137, 138, 139, 140, 141, 142, 143, 144, 145, 146, 147, 148])
 (.seq (.region [⟨(some 149), .mov (.t 10), [], none⟩,
   ⟨(some 150), .bin .add (.t 149) (.c (.int .i64 1)), [0], none⟩,
   ⟨(some 10), .mov (.t 150), [1, 0, 1], none⟩] [] [149, 150])
 (.region [⟨(some 151), .mov (.t 11), [], none⟩,
   ⟨(some 152), .bin .sub (.t 151) (.c (.int .i64 1)), [0], none⟩,
   ⟨(some 11), .mov (.t 152), [1, 0, 1], none⟩] [] [151, 152])))))))))
 (.seq (.region [⟨(some 153), .mov (.t 0), [], none⟩,
   ⟨(some 154), .mov (.t 11), [], none⟩,
   ⟨(some 155), .mov (.t 0), [], none⟩,
   ⟨(some 156), .mov (.t 1), [], none⟩,
   ⟨(some 157), .mov (.t 0), [], none⟩,
   ⟨(some 158), .mov (.t 1), [], none⟩,
   ⟨(some 159), .iaddr none 1 (.t 157) (.t 158), [4, 5], none⟩,
   ⟨(some 160), .load none (.t 159), [6], none⟩,
   ⟨(some 161), .mov (.t 0), [], none⟩,
   ⟨(some 162), .mov (.t 11), [], none⟩,
   ⟨(some 163), .iaddr none 1 (.t 161) (.t 162), [8, 9], none⟩,
   ⟨(some 164), .load none (.t 163), [10], none⟩,
   ⟨(some 165), .iaddr none 1 (.t 153) (.t 154), [0, 1, 0, 1, 4, 5, 6, 7, 11], none⟩,
   ⟨none, .store 1 (.t 165) (.t 160), [12, 7, 0, 1, 4, 5, 6, 7, 11], none⟩,
   ⟨(some 166), .iaddr none 1 (.t 155) (.t 156), [2, 3, 0, 1, 2, 3, 4, 5, 6, 7, 8, 9, 10, 11, 12, 13], none⟩,
   ⟨none, .store 1 (.t 166) (.t 164), [14, 11, 13, 0, 1, 2, 3, 4, 5, 6, 7, 8, 9, 10, 11, 12, 13], none⟩] [] [0, 1, 10, 128, 127, 122, 126, 125, 123, 124, 121, 119, 120, 111, 106, 110, 109, 107, 108, 105, 103, 104, 153, 154, 155, 156, 157, 158, 159, 160, 161, 162, 163, 164, 165, 166])
 (.seq (.region [⟨(some 167), .mov (.t 11), [], none⟩,
   ⟨(some 8), .mov (.t 167), [0, 0], none⟩,
   ⟨(some 9), .mov (.c (.bool false)), [1, 0, 1], none⟩] [] [11, 167])
 .ret))))))))))))⟩

-- math/bits.Len32
def s94 : SFn := ⟨19, [.tmp 2],
 (.seq (.region [⟨(some 2), .mov (.c (.int .i64 0)), [], none⟩] [] [])
 (.seq (.seq (.region [⟨(some 3), .mov (.t 0), [], none⟩,
   ⟨(some 4), .bin .geq (.t 3) (.c (.int .u32 65536)), [0], none⟩] [] [3])
 (.cond (.t 4)
  (.seq (.region [⟨(some 5), .mov (.t 0), [], none⟩,
    ⟨(some 6), .bin .shr (.t 5) (.c (.int .u64 16)), [0], none⟩,
    ⟨(some 0), .mov (.t 6), [1, 0, 1], none⟩] [] [2, 4, 5, 6])
  (.region [⟨(some 2), .mov (.c (.int .i64 16)), [], none⟩] [] []))
  .skip))
 (.seq (.seq (.region [⟨(some 7), .mov (.t 0), [], none⟩,
   ⟨(some 8), .bin .geq (.t 7) (.c (.int .u32 256)), [0], none⟩] [] [4, 7])
 (.cond (.t 8)
  (.seq (.region [⟨(some 9), .mov (.t 0), [], none⟩,
    ⟨(some 10), .bin .shr (.t 9) (.c (.int .u64 8)), [0], none⟩,
    ⟨(some 0), .mov (.t 10), [1, 0, 1], none⟩] [] [8, 9, 10])
  (.region [⟨(some 11), .mov (.t 2), [], none⟩,
    ⟨(some 12), .bin .add (.t 11) (.c (.int .i64 8)), [0], none⟩,
    ⟨(some 2), .mov (.t 12), [1, 0, 1], none⟩] [] [11, 12]))
  .skip))
 (.seq (.region [⟨(some 13), .mov (.t 2), [], none⟩,
   ⟨(some 14), .mov (.t 0), [], none⟩,
   ⟨(some 15), .conv .u8 (.t 14), [1], none⟩,
   ⟨(some 16), .index none (.c (.str [0, 1, 2, 2, 3, 3, 3, 3, 4, 4, 4, 4, 4, 4, 4, 4, 5, 5, 5, 5, 5, 5, 5, 5, 5, 5, 5, 5, 5, 5, 5, 5, 6, 6, 6, 6, 6, 6, 6, 6, 6, 6, 6, 6, 6, 6, 6, 6, 6, 6, 6, 6, 6, 6, 6, 6, 6, 6, 6, 6, 6, 6, 6, 6, 7, 7, 7, 7, 7, 7, 7, 7, 7, 7, 7, 7, 7, 7, 7, 7, 7, 7, 7, 7, 7, 7, 7, 7, 7, 7, 7, 7, 7, 7, 7, 7, 7, 7, 7, 7, 7, 7, 7, 7, 7, 7, 7, 7, 7, 7, 7, 7, 7, 7, 7, 7, 7, 7, 7, 7, 7, 7, 7, 7, 7, 7, 7, 7, 8, 8, 8, 8, 8, 8, 8, 8, 8, 8, 8, 8, 8, 8, 8, 8, 8, 8, 8, 8, 8, 8, 8, 8, 8, 8, 8, 8, 8, 8, 8, 8, 8, 8, 8, 8, 8, 8, 8, 8, 8, 8, 8, 8, 8, 8, 8, 8, 8, 8, 8, 8, 8, 8, 8, 8, 8, 8, 8, 8, 8, 8, 8, 8, 8, 8, 8, 8, 8, 8, 8, 8, 8, 8, 8, 8, 8, 8, 8, 8, 8, 8, 8, 8, 8, 8, 8, 8, 8, 8, 8, 8, 8, 8, 8, 8, 8, 8, 8, 8, 8, 8, 8, 8, 8, 8, 8, 8, 8, 8, 8, 8, 8, 8, 8, 8, 8, 8, 8, 8, 8, 8, 8, 8, 8, 8, 8, 8])) (.t 15), [2], none⟩,
   ⟨(some 17), .conv .i64 (.t 16), [3], none⟩,
   ⟨(some 18), .bin .add (.t 13) (.t 17), [0, 4], none⟩,
   ⟨(some 2), .mov (.t 18), [5, 0, 1, 2, 3, 4, 5], none⟩] [] [0, 8, 13, 14, 15, 16, 17, 18])
 .ret))))⟩

-- math/bits.Len64
def s95 : SFn := ⟨25, [.tmp 2],
 (.seq (.region [⟨(some 2), .mov (.c (.int .i64 0)), [], none⟩] [] [])
 (.seq (.seq (.region [⟨(some 3), .mov (.t 0), [], none⟩,
   ⟨(some 4), .bin .geq (.t 3) (.c (.int .u64 4294967296)), [0], none⟩] [] [3])
 (.cond (.t 4)
  (.seq (.region [⟨(some 5), .mov (.t 0), [], none⟩,
    ⟨(some 6), .bin .shr (.t 5) (.c (.int .u64 32)), [0], none⟩,
    ⟨(some 0), .mov (.t 6), [1, 0, 1], none⟩] [] [2, 4, 5, 6])
  (.region [⟨(some 2), .mov (.c (.int .i64 32)), [], none⟩] [] []))
  .skip))
 (.seq (.seq (.region [⟨(some 7), .mov (.t 0), [], none⟩,
   ⟨(some 8), .bin .geq (.t 7) (.c (.int .u64 65536)), [0], none⟩] [] [4, 7])
 (.cond (.t 8)
  (.seq (.region [⟨(some 9), .mov (.t 0), [], none⟩,
    ⟨(some 10), .bin .shr (.t 9) (.c (.int .u64 16)), [0], none⟩,
    ⟨(some 0), .mov (.t 10), [1, 0, 1], none⟩] [] [8, 9, 10])
  (.region [⟨(some 11), .mov (.t 2), [], none⟩,
    ⟨(some 12), .bin .add (.t 11) (.c (.int .i64 16)), [0], none⟩,
    ⟨(some 2), .mov (.t 12), [1, 0, 1], none⟩] [] [11, 12]))
  .skip))
 (.seq (.seq (.region [⟨(some 13), .mov (.t 0), [], none⟩,
   ⟨(some 14), .bin .geq (.t 13) (.c (.int .u64 256)), [0], none⟩] [] [8, 13])
 (.cond (.t 14)
  (.seq (.region [⟨(some 15), .mov (.t 0), [], none⟩,
    ⟨(some 16), .bin .shr (.t 15) (.c (.int .u64 8)), [0], none⟩,
    ⟨(some 0), .mov (.t 16), [1, 0, 1], none⟩] [] [14, 15, 16])
  (.region [⟨(some 17), .mov (.t 2), [], none⟩,
    ⟨(some 18), .bin .add (.t 17) (.c (.int .i64 8)), [0], none⟩,
    ⟨(some 2), .mov (.t 18), [1, 0, 1], none⟩] [] [17, 18]))
  .skip))
 (.seq (.region [⟨(some 19), .mov (.t 2), [], none⟩,
   ⟨(some 20), .mov (.t 0), [], none⟩,
   ⟨(some 21), .conv .u8 (.t 20), [1], none⟩,
   ⟨(some 22), .index none (.c (.str [0, 1, 2, 2, 3, 3, 3, 3, 4, 4, 4, 4, 4, 4, 4, 4, 5, 5, 5, 5, 5, 5, 5, 5, 5, 5, 5, 5, 5, 5, 5, 5, 6, 6, 6, 6, 6, 6, 6, 6, 6, 6, 6, 6, 6, 6, 6, 6, 6, 6, 6, 6, 6, 6, 6, 6, 6, 6, 6, 6, 6, 6, 6, 6, 7, 7, 7, 7, 7, 7, 7, 7, 7, 7, 7, 7, 7, 7, 7, 7, 7, 7, 7, 7, 7, 7, 7, 7, 7, 7, 7, 7, 7, 7, 7, 7, 7, 7, 7, 7, 7, 7, 7, 7, 7, 7, 7, 7, 7, 7, 7, 7, 7, 7, 7, 7, 7, 7, 7, 7, 7, 7, 7, 7, 7, 7, 7, 7, 8, 8, 8, 8, 8, 8, 8, 8, 8, 8, 8, 8, 8, 8, 8, 8, 8, 8, 8, 8, 8, 8, 8, 8, 8, 8, 8, 8, 8, 8, 8, 8, 8, 8, 8, 8, 8, 8, 8, 8, 8, 8, 8, 8, 8, 8, 8, 8, 8, 8, 8, 8, 8, 8, 8, 8, 8, 8, 8, 8, 8, 8, 8, 8, 8, 8, 8, 8, 8, 8, 8, 8, 8, 8, 8, 8, 8, 8, 8, 8, 8, 8, 8, 8, 8, 8, 8, 8, 8, 8, 8, 8, 8, 8, 8, 8, 8, 8, 8, 8, 8, 8, 8, 8, 8, 8, 8, 8, 8, 8, 8, 8, 8, 8, 8, 8, 8, 8, 8, 8, 8, 8, 8, 8, 8, 8, 8, 8])) (.t 21), [2], none⟩,
   ⟨(some 23), .conv .i64 (.t 22), [3], none⟩,
   ⟨(some 24), .bin .add (.t 19) (.t 23), [0, 4], none⟩,
   ⟨(some 2), .mov (.t 24), [5, 0, 1, 2, 3, 4, 5], none⟩] [] [0, 14, 19, 20, 21, 22, 23, 24])
 .ret)))))⟩

-- internal/strconv.small
def s102 : SFn := ⟨15, [.tmp 2],
 (.seq (.region [⟨(some 2), .mov (.c (.str [])), [], none⟩] [] [2])
 (.seq (.seq (.region [⟨(some 3), .mov (.t 0), [], none⟩,
   ⟨(some 4), .bin .lss (.t 3) (.c (.int .i64 10)), [0], none⟩] [] [3])
 (.cond (.t 4)
  (.seq (.region [⟨(some 5), .mov (.t 0), [], none⟩,
    ⟨(some 6), .mov (.t 0), [], none⟩,
    ⟨(some 7), .bin .add (.t 6) (.c (.int .i64 1)), [1], none⟩,
    ⟨(some 8), .slice none (.c (.str [48, 49, 50, 51, 52, 53, 54, 55, 56, 57, 97, 98, 99, 100, 101, 102, 103, 104, 105, 106, 107, 108, 109, 110, 111, 112, 113, 114, 115, 116, 117, 118, 119, 120, 121, 122])) (some (.t 5)) (some (.t 7)) none, [0, 2], none⟩,
    ⟨(some 2), .mov (.t 8), [3, 0, 1, 2, 3], none⟩] [] [0, 4, 5, 6, 7, 8])
  .ret)
  .skip))
 (.seq (.region [⟨(some 9), .mov (.t 0), [], none⟩,
   ⟨(some 10), .bin .mul (.t 9) (.c (.int .i64 2)), [0], none⟩,
   ⟨(some 11), .mov (.t 0), [], none⟩,
   ⟨(some 12), .bin .mul (.t 11) (.c (.int .i64 2)), [2], none⟩,
   ⟨(some 13), .bin .add (.t 12) (.c (.int .i64 2)), [3], none⟩,
   ⟨(some 14), .slice none (.c (.str [48, 48, 48, 49, 48, 50, 48, 51, 48, 52, 48, 53, 48, 54, 48, 55, 48, 56, 48, 57, 49, 48, 49, 49, 49, 50, 49, 51, 49, 52, 49, 53, 49, 54, 49, 55, 49, 56, 49, 57, 50, 48, 50, 49, 50, 50, 50, 51, 50, 52, 50, 53, 50, 54, 50, 55, 50, 56, 50, 57, 51, 48, 51, 49, 51, 50, 51, 51, 51, 52, 51, 53, 51, 54, 51, 55, 51, 56, 51, 57, 52, 48, 52, 49, 52, 50, 52, 51, 52, 52, 52, 53, 52, 54, 52, 55, 52, 56, 52, 57, 53, 48, 53, 49, 53, 50, 53, 51, 53, 52, 53, 53, 53, 54, 53, 55, 53, 56, 53, 57, 54, 48, 54, 49, 54, 50, 54, 51, 54, 52, 54, 53, 54, 54, 54, 55, 54, 56, 54, 57, 55, 48, 55, 49, 55, 50, 55, 51, 55, 52, 55, 53, 55, 54, 55, 55, 55, 56, 55, 57, 56, 48, 56, 49, 56, 50, 56, 51, 56, 52, 56, 53, 56, 54, 56, 55, 56, 56, 56, 57, 57, 48, 57, 49, 57, 50, 57, 51, 57, 52, 57, 53, 57, 54, 57, 55, 57, 56, 57, 57])) (some (.t 10)) (some (.t 13)) none, [1, 4], none⟩,
   ⟨(some 2), .mov (.t 14), [5, 0, 1, 2, 3, 4, 5], none⟩] [] [0, 4, 9, 10, 11, 12, 13, 14])
 .ret)))⟩

-- internal/strconv.numDigits
def s103 : SFn := ⟨15, [.tmp 2],
 (.seq (.region [⟨(some 2), .mov (.c (.int .i64 0)), [], none⟩] [] [2])
 (.seq (.region [⟨(some 4), .mov (.t 0), [], none⟩,
   ⟨(some 5), .call .heap (.f 95) [(.t 4)], [0], none⟩,
   ⟨(some 6), .call .heap (.f 113) [(.t 5)], [1, 1], none⟩,
   ⟨(some 3), .mov (.t 6), [2, 2, 0, 1, 2], none⟩] [] [4, 5, 6])
 (.seq (.region [⟨(some 7), .mov (.t 3), [], none⟩,
   ⟨(some 8), .mov (.t 0), [], none⟩,
   ⟨(some 9), .mov (.t 3), [], none⟩,
   ⟨(some 10), .iaddr (some 20) 1 (.g 0) (.t 9), [2], none⟩,
   ⟨(some 11), .load none (.t 10), [3], none⟩,
   ⟨(some 12), .bin .geq (.t 8) (.t 11), [1, 4], none⟩,
   ⟨(some 13), .call .heap (.f 114) [(.t 12)], [5], none⟩,
   ⟨(some 14), .bin .add (.t 7) (.t 13), [0, 6], none⟩,
   ⟨(some 2), .mov (.t 14), [7, 6, 0, 1, 2, 3, 4, 5, 6, 7], none⟩] [] [0, 3, 7, 8, 9, 10, 11, 12, 13, 14])
 .ret)))⟩

-- internal/strconv.formatBase10
def s104 : SFn := ⟨167, [],
 (.seq (.region [⟨(some 17), .mov (.t 0), [], none⟩,
   ⟨(some 18), .len 1 (.t 17), [0], none⟩,
   ⟨(some 4), .mov (.t 18), [1, 0, 1], none⟩] [] [17, 18])
 (.seq (.block 0 (.loop (.seq (.seq (.region [⟨(some 19), .mov (.t 4), [], none⟩,
   ⟨(some 20), .bin .geq (.t 19) (.c (.int .i64 8)), [0], none⟩] [] [19])
 (.cond (.t 20)
  .skip
  (.exit 0)))
 (.block 1 (.seq (.region [⟨(some 21), .mov (.t 1), [], none⟩,
   ⟨(some 22), .bin .rem (.t 21) (.c (.int .u64 100000000)), [0], none⟩,
   ⟨(some 23), .conv .u32 (.t 22), [1], none⟩,
   ⟨(some 5), .mov (.t 23), [2, 0, 1, 2], none⟩] [] [20, 21, 22, 23])
 (.seq (.region [⟨(some 24), .mov (.t 1), [], none⟩,
   ⟨(some 25), .bin .quo (.t 24) (.c (.int .u64 100000000)), [0], none⟩,
   ⟨(some 1), .mov (.t 25), [1, 0, 1], none⟩] [] [24, 25])
 (.seq (.region [⟨(some 26), .mov (.t 5), [], none⟩,
   ⟨(some 27), .bin .quo (.t 26) (.c (.int .u32 10000)), [0], none⟩,
   ⟨(some 28), .mov (.t 5), [], none⟩,
   ⟨(some 29), .bin .rem (.t 28) (.c (.int .u32 10000)), [2], none⟩,
   ⟨(some 6), .mov (.t 27), [1, 0, 1], none⟩,
   ⟨(some 7), .mov (.t 29), [3, 4, 0, 1, 2, 3, 4], none⟩] [] [5, 26, 27, 28, 29])
 (.seq (.region [⟨(some 30), .mov (.t 7), [], none⟩,
   ⟨(some 31), .bin .quo (.t 30) (.c (.int .u32 100)), [0], none⟩,
   ⟨(some 32), .bin .mul (.t 31) (.c (.int .u32 2)), [1], none⟩,
   ⟨(some 33), .mov (.t 7), [], none⟩,
   ⟨(some 34), .bin .rem (.t 33) (.c (.int .u32 100)), [3], none⟩,
   ⟨(some 35), .bin .mul (.t 34) (.c (.int .u32 2)), [4], none⟩,
   ⟨(some 8), .mov (.t 32), [2, 0, 1, 2], none⟩,
   ⟨(some 9), .mov (.t 35), [5, 6, 0, 1, 2, 3, 4, 5, 6], none⟩] [] [7, 30, 31, 32, 33, 34, 35])
 (.seq (.region [⟨(some 36), .mov (.t 6), [], none⟩,
   ⟨(some 37), .bin .quo (.t 36) (.c (.int .u32 100)), [0], none⟩,
   ⟨(some 38), .bin .mul (.t 37) (.c (.int .u32 2)), [1], none⟩,
   ⟨(some 39), .mov (.t 6), [], none⟩,
   ⟨(some 40), .bin .rem (.t 39) (.c (.int .u32 100)), [3], none⟩,
   ⟨(some 41), .bin .mul (.t 40) (.c (.int .u32 2)), [4], none⟩,
   ⟨(some 10), .mov (.t 38), [2, 0, 1, 2], none⟩,
   ⟨(some 11), .mov (.t 41), [5, 6, 0, 1, 2, 3, 4, 5, 6], none⟩] [] [6, 36, 37, 38, 39, 40, 41])
 (.seq (.region [⟨(some 42), .mov (.t 0), [], none⟩,
   ⟨(some 43), .mov (.t 4), [], none⟩,
   ⟨(some 44), .bin .sub (.t 43) (.c (.int .i64 1)), [1], none⟩,
   ⟨(some 45), .mov (.t 0), [], none⟩,
   ⟨(some 46), .mov (.t 4), [], none⟩,
   ⟨(some 47), .bin .sub (.t 46) (.c (.int .i64 2)), [4], none⟩,
   ⟨(some 48), .mov (.t 9), [], none⟩,
   ⟨(some 49), .bin .add (.t 48) (.c (.int .u32 1)), [6], none⟩,
   ⟨(some 50), .index none (.c (.str [48, 48, 48, 49, 48, 50, 48, 51, 48, 52, 48, 53, 48, 54, 48, 55, 48, 56, 48, 57, 49, 48, 49, 49, 49, 50, 49, 51, 49, 52, 49, 53, 49, 54, 49, 55, 49, 56, 49, 57, 50, 48, 50, 49, 50, 50, 50, 51, 50, 52, 50, 53, 50, 54, 50, 55, 50, 56, 50, 57, 51, 48, 51, 49, 51, 50, 51, 51, 51, 52, 51, 53, 51, 54, 51, 55, 51, 56, 51, 57, 52, 48, 52, 49, 52, 50, 52, 51, 52, 52, 52, 53, 52, 54, 52, 55, 52, 56, 52, 57, 53, 48, 53, 49, 53, 50, 53, 51, 53, 52, 53, 53, 53, 54, 53, 55, 53, 56, 53, 57, 54, 48, 54, 49, 54, 50, 54, 51, 54, 52, 54, 53, 54, 54, 54, 55, 54, 56, 54, 57, 55, 48, 55, 49, 55, 50, 55, 51, 55, 52, 55, 53, 55, 54, 55, 55, 55, 56, 55, 57, 56, 48, 56, 49, 56, 50, 56, 51, 56, 52, 56, 53, 56, 54, 56, 55, 56, 56, 56, 57, 57, 48, 57, 49, 57, 50, 57, 51, 57, 52, 57, 53, 57, 54, 57, 55, 57, 56, 57, 57])) (.t 49), [7], none⟩,
   ⟨(some 51), .mov (.t 9), [], none⟩,
   ⟨(some 52), .index none (.c (.str [48, 48, 48, 49, 48, 50, 48, 51, 48, 52, 48, 53, 48, 54, 48, 55, 48, 56, 48, 57, 49, 48, 49, 49, 49, 50, 49, 51, 49, 52, 49, 53, 49, 54, 49, 55, 49, 56, 49, 57, 50, 48, 50, 49, 50, 50, 50, 51, 50, 52, 50, 53, 50, 54, 50, 55, 50, 56, 50, 57, 51, 48, 51, 49, 51, 50, 51, 51, 51, 52, 51, 53, 51, 54, 51, 55, 51, 56, 51, 57, 52, 48, 52, 49, 52, 50, 52, 51, 52, 52, 52, 53, 52, 54, 52, 55, 52, 56, 52, 57, 53, 48, 53, 49, 53, 50, 53, 51, 53, 52, 53, 53, 53, 54, 53, 55, 53, 56, 53, 57, 54, 48, 54, 49, 54, 50, 54, 51, 54, 52, 54, 53, 54, 54, 54, 55, 54, 56, 54, 57, 55, 48, 55, 49, 55, 50, 55, 51, 55, 52, 55, 53, 55, 54, 55, 55, 55, 56, 55, 57, 56, 48, 56, 49, 56, 50, 56, 51, 56, 52, 56, 53, 56, 54, 56, 55, 56, 56, 56, 57, 57, 48, 57, 49, 57, 50, 57, 51, 57, 52, 57, 53, 57, 54, 57, 55, 57, 56, 57, 57])) (.t 51), [9], none⟩,
   ⟨(some 53), .iaddr none 1 (.t 42) (.t 44), [0, 2, 0, 1, 2, 6, 7, 8], none⟩,
   ⟨none, .store 1 (.t 53) (.t 50), [11, 8, 0, 1, 2, 6, 7, 8], none⟩,
   ⟨(some 54), .iaddr none 1 (.t 45) (.t 47), [3, 5, 0, 1, 2, 3, 4, 5, 6, 7, 8, 9, 10, 11, 12], none⟩,
   ⟨none, .store 1 (.t 54) (.t 52), [13, 10, 12, 0, 1, 2, 3, 4, 5, 6, 7, 8, 9, 10, 11, 12], none⟩] [] [9, 42, 43, 44, 45, 46, 47, 48, 49, 50, 51, 52, 53, 54])
 (.seq (.region [⟨(some 55), .mov (.t 0), [], none⟩,
   ⟨(some 56), .mov (.t 4), [], none⟩,
   ⟨(some 57), .bin .sub (.t 56) (.c (.int .i64 3)), [1], none⟩,
   ⟨(some 58), .mov (.t 0), [], none⟩,
   ⟨(some 59), .mov (.t 4), [], none⟩,
   ⟨(some 60), .bin .sub (.t 59) (.c (.int .i64 4)), [4], none⟩,
   ⟨(some 61), .mov (.t 8), [], none⟩,
   ⟨(some 62), .bin .add (.t 61) (.c (.int .u32 1)), [6], none⟩,
   ⟨(some 63), .index none (.c (.str [48, 48, 48, 49, 48, 50, 48, 51, 48, 52, 48, 53, 48, 54, 48, 55, 48, 56, 48, 57, 49, 48, 49, 49, 49, 50, 49, 51, 49, 52, 49, 53, 49, 54, 49, 55, 49, 56, 49, 57, 50, 48, 50, 49, 50, 50, 50, 51, 50, 52, 50, 53, 50, 54, 50, 55, 50, 56, 50, 57, 51, 48, 51, 49, 51, 50, 51, 51, 51, 52, 51, 53, 51, 54, 51, 55, 51, 56, 51, 57, 52, 48, 52, 49, 52, 50, 52, 51, 52, 52, 52, 53, 52, 54, 52, 55, 52, 56, 52, 57, 53, 48, 53, 49, 53, 50, 53, 51, 53, 52, 53, 53, 53, 54, 53, 55, 53, 56, 53, 57, 54, 48, 54, 49, 54, 50, 54, 51, 54, 52, 54, 53, 54, 54, 54, 55, 54, 56, 54, 57, 55, 48, 55, 49, 55, 50, 55, 51, 55, 52, 55, 53, 55, 54, 55, 55, 55, 56, 55, 57, 56, 48, 56, 49, 56, 50, 56, 51, 56, 52, 56, 53, 56, 54, 56, 55, 56, 56, 56, 57, 57, 48, 57, 49, 57, 50, 57, 51, 57, 52, 57, 53, 57, 54, 57, 55, 57, 56, 57, 57])) (.t 62), [7], none⟩,
   ⟨(some 64), .mov (.t 8), [], none⟩,
   ⟨(some 65), .index none (.c (.str [48, 48, 48, 49, 48, 50, 48, 51, 48, 52, 48, 53, 48, 54, 48, 55, 48, 56, 48, 57, 49, 48, 49, 49, 49, 50, 49, 51, 49, 52, 49, 53, 49, 54, 49, 55, 49, 56, 49, 57, 50, 48, 50, 49, 50, 50, 50, 51, 50, 52, 50, 53, 50, 54, 50, 55, 50, 56, 50, 57, 51, 48, 51, 49, 51, 50, 51, 51, 51, 52, 51, 53, 51, 54, 51, 55, 51, 56, 51, 57, 52, 48, 52, 49, 52, 50, 52, 51, 52, 52, 52, 53, 52, 54, 52, 55, 52, 56, 52, 57, 53, 48, 53, 49, 53, 50, 53, 51, 53, 52, 53, 53, 53, 54, 53, 55, 53, 56, 53, 57, 54, 48, 54, 49, 54, 50, 54, 51, 54, 52, 54, 53, 54, 54, 54, 55, 54, 56, 54, 57, 55, 48, 55, 49, 55, 50, 55, 51, 55, 52, 55, 53, 55, 54, 55, 55, 55, 56, 55, 57, 56, 48, 56, 49, 56, 50, 56, 51, 56, 52, 56, 53, 56, 54, 56, 55, 56, 56, 56, 57, 57, 48, 57, 49, 57, 50, 57, 51, 57, 52, 57, 53, 57, 54, 57, 55, 57, 56, 57, 57])) (.t 64), [9], none⟩,
   ⟨(some 66), .iaddr none 1 (.t 55) (.t 57), [0, 2, 0, 1, 2, 6, 7, 8], none⟩,
   ⟨none, .store 1 (.t 66) (.t 63), [11, 8, 0, 1, 2, 6, 7, 8], none⟩,
   ⟨(some 67), .iaddr none 1 (.t 58) (.t 60), [3, 5, 0, 1, 2, 3, 4, 5, 6, 7, 8, 9, 10, 11, 12], none⟩,
   ⟨none, .store 1 (.t 67) (.t 65), [13, 10, 12, 0, 1, 2, 3, 4, 5, 6, 7, 8, 9, 10, 11, 12], none⟩] [] [8, 55, 56, 57, 58, 59, 60, 61, 62, 63, 64, 65, 66, 67])
 (.seq (.region [⟨(some 68), .mov (.t 0), [], none⟩,
   ⟨(some 69), .mov (.t 4), [], none⟩,
   ⟨(some 70), .bin .sub (.t 69) (.c (.int .i64 5)), [1], none⟩,
   ⟨(some 71), .mov (.t 0), [], none⟩,
   ⟨(some 72), .mov (.t 4), [], none⟩,
   ⟨(some 73), .bin .sub (.t 72) (.c (.int .i64 6)), [4], none⟩,
   ⟨(some 74), .mov (.t 11), [], none⟩,
   ⟨(some 75), .bin .add (.t 74) (.c (.int .u32 1)), [6], none⟩,
   ⟨(some 76), .index none (.c (.str [48, 48, 48, 49, 48, 50, 48, 51, 48, 52, 48, 53, 48, 54, 48, 55, 48, 56, 48, 57, 49, 48, 49, 49, 49, 50, 49, 51, 49, 52, 49, 53, 49, 54, 49, 55, 49, 56, 49, 57, 50, 48, 50, 49, 50, 50, 50, 51, 50, 52, 50, 53, 50, 54, 50, 55, 50, 56, 50, 57, 51, 48, 51, 49, 51, 50, 51, 51, 51, 52, 51, 53, 51, 54, 51, 55, 51, 56, 51, 57, 52, 48, 52, 49, 52, 50, 52, 51, 52, 52, 52, 53, 52, 54, 52, 55, 52, 56, 52, 57, 53, 48, 53, 49, 53, 50, 53, 51, 53, 52, 53, 53, 53, 54, 53, 55, 53, 56, 53, 57, 54, 48, 54, 49, 54, 50, 54, 51, 54, 52, 54, 53, 54, 54, 54, 55, 54, 56, 54, 57, 55, 48, 55, 49, 55, 50, 55, 51, 55, 52, 55, 53, 55, 54, 55, 55, 55, 56, 55, 57, 56, 48, 56, 49, 56, 50, 56, 51, 56, 52, 56, 53, 56, 54, 56, 55, 56, 56, 56, 57, 57, 48, 57, 49, 57, 50, 57, 51, 57, 52, 57, 53, 57, 54, 57, 55, 57, 56, 57, 57])) (.t 75), [7], none⟩,
   ⟨(some 77), .mov (.t 11), [], none⟩,
   ⟨(some 78), .index none (.c (.str [48, 48, 48, 49, 48, 50, 48, 51, 48, 52, 48, 53, 48, 54, 48, 55, 48, 56, 48, 57, 49, 48, 49, 49, 49, 50, 49, 51, 49, 52, 49, 53, 49, 54, 49, 55, 49, 56, 49, 57, 50, 48, 50, 49, 50, 50, 50, 51, 50, 52, 50, 53, 50, 54, 50, 55, 50, 56, 50, 57, 51, 48, 51, 49, 51, 50, 51, 51, 51, 52, 51, 53, 51, 54, 51, 55, 51, 56, 51, 57, 52, 48, 52, 49, 52, 50, 52, 51, 52, 52, 52, 53, 52, 54, 52, 55, 52, 56, 52, 57, 53, 48, 53, 49, 53, 50, 53, 51, 53, 52, 53, 53, 53, 54, 53, 55, 53, 56, 53, 57, 54, 48, 54, 49, 54, 50, 54, 51, 54, 52, 54, 53, 54, 54, 54, 55, 54, 56, 54, 57, 55, 48, 55, 49, 55, 50, 55, 51, 55, 52, 55, 53, 55, 54, 55, 55, 55, 56, 55, 57, 56, 48, 56, 49, 56, 50, 56, 51, 56, 52, 56, 53, 56, 54, 56, 55, 56, 56, 56, 57, 57, 48, 57, 49, 57, 50, 57, 51, 57, 52, 57, 53, 57, 54, 57, 55, 57, 56, 57, 57])) (.t 77), [9], none⟩,
   ⟨(some 79), .iaddr none 1 (.t 68) (.t 70), [0, 2, 0, 1, 2, 6, 7, 8], none⟩,
   ⟨none, .store 1 (.t 79) (.t 76), [11, 8, 0, 1, 2, 6, 7, 8], none⟩,
   ⟨(some 80), .iaddr none 1 (.t 71) (.t 73), [3, 5, 0, 1, 2, 3, 4, 5, 6, 7, 8, 9, 10, 11, 12], none⟩,
   ⟨none, .store 1 (.t 80) (.t 78), [13, 10, 12, 0, 1, 2, 3, 4, 5, 6, 7, 8, 9, 10, 11, 12], none⟩] [] [11, 68, 69, 70, 71, 72, 73, 74, 75, 76, 77, 78, 79, 80])
 (.seq (.region [⟨(some 81), .mov (.t 0), [], none⟩,
   ⟨(some 82), .mov (.t 4), [], none⟩,
   ⟨(some 83), .bin .sub (.t 82) (.c (.int .i64 7)), [1], none⟩,
   ⟨(some 84), .mov (.t 0), [], none⟩,
   ⟨(some 85), .mov (.t 4), [], none⟩,
   ⟨(some 86), .bin .sub (.t 85) (.c (.int .i64 8)), [4], none⟩,
   ⟨(some 87), .mov (.t 10), [], none⟩,
   ⟨(some 88), .bin .add (.t 87) (.c (.int .u32 1)), [6], none⟩,
   ⟨(some 89), .index none (.c (.str [48, 48, 48, 49, 48, 50, 48, 51, 48, 52, 48, 53, 48, 54, 48, 55, 48, 56, 48, 57, 49, 48, 49, 49, 49, 50, 49, 51, 49, 52, 49, 53, 49, 54, 49, 55, 49, 56, 49, 57, 50, 48, 50, 49, 50, 50, 50, 51, 50, 52, 50, 53, 50, 54, 50, 55, 50, 56, 50, 57, 51, 48, 51, 49, 51, 50, 51, 51, 51, 52, 51, 53, 51, 54, 51, 55, 51, 56, 51, 57, 52, 48, 52, 49, 52, 50, 52, 51, 52, 52, 52, 53, 52, 54, 52, 55, 52, 56, 52, 57, 53, 48, 53, 49, 53, 50, 53, 51, 53, 52, 53, 53, 53, 54, 53, 55, 53, 56, 53, 57, 54, 48, 54, 49, 54, 50, 54, 51, 54, 52, 54, 53, 54, 54, 54, 55, 54, 56, 54, 57, 55, 48, 55, 49, 55, 50, 55, 51, 55, 52, 55, 53, 55, 54, 55, 55, 55, 56, 55, 57, 56, 48, 56, 49, 56, 50, 56, 51, 56, 52, 56, 53, 56, 54, 56, 55, 56, 56, 56, 57, 57, 48, 57, 49, 57, 50, 57, 51, 57, 52, 57, 53, 57, 54, 57, 55, 57, 56, 57, 57])) (.t 88), [7], none⟩,
   ⟨(some 90), .mov (.t 10), [], none⟩,
   ⟨(some 91), .index none (.c (.str [48, 48, 48, 49, 48, 50, 48, 51, 48, 52, 48, 53, 48, 54, 48, 55, 48, 56, 48, 57, 49, 48, 49, 49, 49, 50, 49, 51, 49, 52, 49, 53, 49, 54, 49, 55, 49, 56, 49, 57, 50, 48, 50, 49, 50, 50, 50, 51, 50, 52, 50, 53, 50, 54, 50, 55, 50, 56, 50, 57, 51, 48, 51, 49, 51, 50, 51, 51, 51, 52, 51, 53, 51, 54, 51, 55, 51, 56, 51, 57, 52, 48, 52, 49, 52, 50, 52, 51, 52, 52, 52, 53, 52, 54, 52, 55, 52, 56, 52, 57, 53, 48, 53, 49, 53, 50, 53, 51, 53, 52, 53, 53, 53, 54, 53, 55, 53, 56, 53, 57, 54, 48, 54, 49, 54, 50, 54, 51, 54, 52, 54, 53, 54, 54, 54, 55, 54, 56, 54, 57, 55, 48, 55, 49, 55, 50, 55, 51, 55, 52, 55, 53, 55, 54, 55, 55, 55, 56, 55, 57, 56, 48, 56, 49, 56, 50, 56, 51, 56, 52, 56, 53, 56, 54, 56, 55, 56, 56, 56, 57, 57, 48, 57, 49, 57, 50, 57, 51, 57, 52, 57, 53, 57, 54, 57, 55, 57, 56, 57, 57])) (.t 90), [9], none⟩,
   ⟨(some 92), .iaddr none 1 (.t 81) (.t 83), [0, 2, 0, 1, 2, 6, 7, 8], none⟩,
   ⟨none, .store 1 (.t 92) (.t 89), [11, 8, 0, 1, 2, 6, 7, 8], none⟩,
   ⟨(some 93), .iaddr none 1 (.t 84) (.t 86), [3, 5, 0, 1, 2, 3, 4, 5, 6, 7, 8, 9, 10, 11, 12], none⟩,
   ⟨none, .store 1 (.t 93) (.t 91), [13, 10, 12, 0, 1, 2, 3, 4, 5, 6, 7, 8, 9, 10, 11, 12], none⟩] [] [10, 81, 82, 83, 84, 85, 86, 87, 88, 89, 90, 91, 92, 93])
 (.region [⟨(some 94), .mov (.t 4), [], none⟩,
   ⟨(some 95), .bin .sub (.t 94) (.c (.int .i64 8)), [0], none⟩,
   ⟨(some 4), .mov (.t 95), [1, 0, 1], none⟩] [] [94, 95]))))))))))))))
 (.seq (.region [⟨(some 96), .mov (.t 1), [], none⟩,
   ⟨(some 97), .conv .u32 (.t 96), [0], none⟩,
   ⟨(some 12), .mov (.t 97), [1, 0, 1], none⟩] [] [1, 96, 97])
 (.seq (.seq (.region [⟨(some 98), .mov (.t 4), [], none⟩,
   ⟨(some 99), .bin .geq (.t 98) (.c (.int .i64 4)), [0], none⟩] [] [98])
 (.cond (.t 99)
  (.seq (.region [⟨(some 100), .mov (.t 12), [], none⟩,
    ⟨(some 101), .bin .rem (.t 100) (.c (.int .u32 10000)), [0], none⟩,
    ⟨(some 13), .mov (.t 101), [1, 0, 1], none⟩] [] [99, 100, 101])
  (.seq (.region [⟨(some 102), .mov (.t 12), [], none⟩,
    ⟨(some 103), .bin .quo (.t 102) (.c (.int .u32 10000)), [0], none⟩,
    ⟨(some 12), .mov (.t 103), [1, 0, 1], none⟩] [] [102, 103])
  (.seq (.region [⟨(some 104), .mov (.t 13), [], none⟩,
    ⟨(some 105), .bin .quo (.t 104) (.c (.int .u32 100)), [0], none⟩,
    ⟨(some 106), .bin .mul (.t 105) (.c (.int .u32 2)), [1], none⟩,
    ⟨(some 107), .mov (.t 13), [], none⟩,
    ⟨(some 108), .bin .rem (.t 107) (.c (.int .u32 100)), [3], none⟩,
    ⟨(some 109), .bin .mul (.t 108) (.c (.int .u32 2)), [4], none⟩,
    ⟨(some 14), .mov (.t 106), [2, 0, 1, 2], none⟩,
    ⟨(some 15), .mov (.t 109), [5, 6, 0, 1, 2, 3, 4, 5, 6], none⟩] [] [13, 104, 105, 106, 107, 108, 109])
  (.seq (.region [⟨(some 110), .mov (.t 0), [], none⟩,
    ⟨(some 111), .mov (.t 4), [], none⟩,
    ⟨(some 112), .bin .sub (.t 111) (.c (.int .i64 1)), [1], none⟩,
    ⟨(some 113), .mov (.t 0), [], none⟩,
    ⟨(some 114), .mov (.t 4), [], none⟩,
    ⟨(some 115), .bin .sub (.t 114) (.c (.int .i64 2)), [4], none⟩,
    ⟨(some 116), .mov (.t 15), [], none⟩,
    ⟨(some 117), .bin .add (.t 116) (.c (.int .u32 1)), [6], none⟩,
    ⟨(some 118), .index none (.c (.str [48, 48, 48, 49, 48, 50, 48, 51, 48, 52, 48, 53, 48, 54, 48, 55, 48, 56, 48, 57, 49, 48, 49, 49, 49, 50, 49, 51, 49, 52, 49, 53, 49, 54, 49, 55, 49, 56, 49, 57, 50, 48, 50, 49, 50, 50, 50, 51, 50, 52, 50, 53, 50, 54, 50, 55, 50, 56, 50, 57, 51, 48, 51, 49, 51, 50, 51, 51, 51, 52, 51, 53, 51, 54, 51, 55, 51, 56, 51, 57, 52, 48, 52, 49, 52, 50, 52, 51, 52, 52, 52, 53, 52, 54, 52, 55, 52, 56, 52, 57, 53, 48, 53, 49, 53, 50, 53, 51, 53, 52, 53, 53, 53, 54, 53, 55, 53, 56, 53, 57, 54, 48, 54, 49, 54, 50, 54, 51, 54, 52, 54, 53, 54, 54, 54, 55, 54, 56, 54, 57, 55, 48, 55, 49, 55, 50, 55, 51, 55, 52, 55, 53, 55, 54, 55, 55, 55, 56, 55, 57, 56, 48, 56, 49, 56, 50, 56, 51, 56, 52, 56, 53, 56, 54, 56, 55, 56, 56, 56, 57, 57, 48, 57, 49, 57, 50, 57, 51, 57, 52, 57, 53, 57, 54, 57, 55, 57, 56, 57, 57])) (.t 117), [7], none⟩,
    ⟨(some 119), .mov (.t 15), [], none⟩,
    ⟨(some 120), .index none (.c (.str [48, 48, 48, 49, 48, 50, 48, 51, 48, 52, 48, 53, 48, 54, 48, 55, 48, 56, 48, 57, 49, 48, 49, 49, 49, 50, 49, 51, 49, 52, 49, 53, 49, 54, 49, 55, 49, 56, 49, 57, 50, 48, 50, 49, 50, 50, 50, 51, 50, 52, 50, 53, 50, 54, 50, 55, 50, 56, 50, 57, 51, 48, 51, 49, 51, 50, 51, 51, 51, 52, 51, 53, 51, 54, 51, 55, 51, 56, 51, 57, 52, 48, 52, 49, 52, 50, 52, 51, 52, 52, 52, 53, 52, 54, 52, 55, 52, 56, 52, 57, 53, 48, 53, 49, 53, 50, 53, 51, 53, 52, 53, 53, 53, 54, 53, 55, 53, 56, 53, 57, 54, 48, 54, 49, 54, 50, 54, 51, 54, 52, 54, 53, 54, 54, 54, 55, 54, 56, 54, 57, 55, 48, 55, 49, 55, 50, 55, 51, 55, 52, 55, 53, 55, 54, 55, 55, 55, 56, 55, 57, 56, 48, 56, 49, 56, 50, 56, 51, 56, 52, 56, 53, 56, 54, 56, 55, 56, 56, 56, 57, 57, 48, 57, 49, 57, 50, 57, 51, 57, 52, 57, 53, 57, 54, 57, 55, 57, 56, 57, 57])) (.t 119), [9], none⟩,
    ⟨(some 121), .iaddr none 1 (.t 110) (.t 112), [0, 2, 0, 1, 2, 6, 7, 8], none⟩,
    ⟨none, .store 1 (.t 121) (.t 118), [11, 8, 0, 1, 2, 6, 7, 8], none⟩,
    ⟨(some 122), .iaddr none 1 (.t 113) (.t 115), [3, 5, 0, 1, 2, 3, 4, 5, 6, 7, 8, 9, 10, 11, 12], none⟩,
    ⟨none, .store 1 (.t 122) (.t 120), [13, 10, 12, 0, 1, 2, 3, 4, 5, 6, 7, 8, 9, 10, 11, 12], none⟩] [] [15, 110, 111, 112, 113, 114, 115, 116, 117, 118, 119, 120, 121, 122])
  (.seq (.region [⟨(some 123), .mov (.t 0), [], none⟩,
    ⟨(some 124), .mov (.t 4), [], none⟩,
    ⟨(some 125), .bin .sub (.t 124) (.c (.int .i64 3)), [1], none⟩,
    ⟨(some 126), .mov (.t 0), [], none⟩,
    ⟨(some 127), .mov (.t 4), [], none⟩,
    ⟨(some 128), .bin .sub (.t 127) (.c (.int .i64 4)), [4], none⟩,
    ⟨(some 129), .mov (.t 14), [], none⟩,
    ⟨(some 130), .bin .add (.t 129) (.c (.int .u32 1)), [6], none⟩,
    ⟨(some 131), .index none (.c (.str [48, 48, 48, 49, 48, 50, 48, 51, 48, 52, 48, 53, 48, 54, 48, 55, 48, 56, 48, 57, 49, 48, 49, 49, 49, 50, 49, 51, 49, 52, 49, 53, 49, 54, 49, 55, 49, 56, 49, 57, 50, 48, 50, 49, 50, 50, 50, 51, 50, 52, 50, 53, 50, 54, 50, 55, 50, 56, 50, 57, 51, 48, 51, 49, 51, 50, 51, 51, 51, 52, 51, 53, 51, 54, 51, 55, 51, 56, 51, 57, 52, 48, 52, 49, 52, 50, 52, 51, 52, 52, 52, 53, 52, 54, 52, 55, 52, 56, 52, 57, 53, 48, 53, 49, 53, 50, 53, 51, 53, 52, 53, 53, 53, 54, 53, 55, 53, 56, 53, 57, 54, 48, 54, 49, 54, 50, 54, 51, 54, 52, 54, 53, 54, 54, 54, 55, 54, 56, 54, 57, 55, 48, 55, 49, 55, 50, 55, 51, 55, 52, 55, 53, 55, 54, 55, 55, 55, 56, 55, 57, 56, 48, 56, 49, 56, 50, 56, 51, 56, 52, 56, 53, 56, 54, 56, 55, 56, 56, 56, 57, 57, 48, 57, 49, 57, 50, 57, 51, 57, 52, 57, 53, 57, 54, 57, 55, 57, 56, 57, 57])) (.t 130), [7], none⟩,
    ⟨(some 132), .mov (.t 14), [], none⟩,
    ⟨(some 133), .index none (.c (.str [48, 48, 48, 49, 48, 50, 48, 51, 48, 52, 48, 53, 48, 54, 48, 55, 48, 56, 48, 57, 49, 48, 49, 49, 49, 50, 49, 51, 49, 52, 49, 53, 49, 54, 49, 55, 49, 56, 49, 57, 50, 48, 50, 49, 50, 50, 50, 51, 50, 52, 50, 53, 50, 54, 50, 55, 50, 56, 50, 57, 51, 48, 51, 49, 51, 50, 51, 51, 51, 52, 51, 53, 51, 54, 51, 55, 51, 56, 51, 57, 52, 48, 52, 49, 52, 50, 52, 51, 52, 52, 52, 53, 52, 54, 52, 55, 52, 56, 52, 57, 53, 48, 53, 49, 53, 50, 53, 51, 53, 52, 53, 53, 53, 54, 53, 55, 53, 56, 53, 57, 54, 48, 54, 49, 54, 50, 54, 51, 54, 52, 54, 53, 54, 54, 54, 55, 54, 56, 54, 57, 55, 48, 55, 49, 55, 50, 55, 51, 55, 52, 55, 53, 55, 54, 55, 55, 55, 56, 55, 57, 56, 48, 56, 49, 56, 50, 56, 51, 56, 52, 56, 53, 56, 54, 56, 55, 56, 56, 56, 57, 57, 48, 57, 49, 57, 50, 57, 51, 57, 52, 57, 53, 57, 54, 57, 55, 57, 56, 57, 57])) (.t 132), [9], none⟩,
    ⟨(some 134), .iaddr none 1 (.t 123) (.t 125), [0, 2, 0, 1, 2, 6, 7, 8], none⟩,
    ⟨none, .store 1 (.t 134) (.t 131), [11, 8, 0, 1, 2, 6, 7, 8], none⟩,
    ⟨(some 135), .iaddr none 1 (.t 126) (.t 128), [3, 5, 0, 1, 2, 3, 4, 5, 6, 7, 8, 9, 10, 11, 12], none⟩,
    ⟨none, .store 1 (.t 135) (.t 133), [13, 10, 12, 0, 1, 2, 3, 4, 5, 6, 7, 8, 9, 10, 11, 12], none⟩] [] [14, 123, 124, 125, 126, 127, 128, 129, 130, 131, 132, 133, 134, 135])
  (.region [⟨(some 136), .mov (.t 4), [], none⟩,
    ⟨(some 137), .bin .sub (.t 136) (.c (.int .i64 4)), [0], none⟩,
    ⟨(some 4), .mov (.t 137), [1, 0, 1], none⟩] [] [136, 137]))))))
  .skip))
 (.seq (.seq (.region [⟨(some 138), .mov (.t 4), [], none⟩,
   ⟨(some 139), .bin .geq (.t 138) (.c (.int .i64 2)), [0], none⟩] [] [99, 138])
 (.cond (.t 139)
  (.seq (.region [⟨(some 140), .mov (.t 12), [], none⟩,
    ⟨(some 141), .bin .rem (.t 140) (.c (.int .u32 100)), [0], none⟩,
    ⟨(some 142), .bin .mul (.t 141) (.c (.int .u32 2)), [1], none⟩,
    ⟨(some 16), .mov (.t 142), [2, 0, 1, 2], none⟩] [] [139, 140, 141, 142])
  (.seq (.region [⟨(some 143), .mov (.t 12), [], none⟩,
    ⟨(some 144), .bin .quo (.t 143) (.c (.int .u32 100)), [0], none⟩,
    ⟨(some 12), .mov (.t 144), [1, 0, 1], none⟩] [] [143, 144])
  (.seq (.region [⟨(some 145), .mov (.t 0), [], none⟩,
    ⟨(some 146), .mov (.t 4), [], none⟩,
    ⟨(some 147), .bin .sub (.t 146) (.c (.int .i64 1)), [1], none⟩,
    ⟨(some 148), .mov (.t 0), [], none⟩,
    ⟨(some 149), .mov (.t 4), [], none⟩,
    ⟨(some 150), .bin .sub (.t 149) (.c (.int .i64 2)), [4], none⟩,
    ⟨(some 151), .mov (.t 16), [], none⟩,
    ⟨(some 152), .bin .add (.t 151) (.c (.int .u32 1)), [6], none⟩,
    ⟨(some 153), .index none (.c (.str [48, 48, 48, 49, 48, 50, 48, 51, 48, 52, 48, 53, 48, 54, 48, 55, 48, 56, 48, 57, 49, 48, 49, 49, 49, 50, 49, 51, 49, 52, 49, 53, 49, 54, 49, 55, 49, 56, 49, 57, 50, 48, 50, 49, 50, 50, 50, 51, 50, 52, 50, 53, 50, 54, 50, 55, 50, 56, 50, 57, 51, 48, 51, 49, 51, 50, 51, 51, 51, 52, 51, 53, 51, 54, 51, 55, 51, 56, 51, 57, 52, 48, 52, 49, 52, 50, 52, 51, 52, 52, 52, 53, 52, 54, 52, 55, 52, 56, 52, 57, 53, 48, 53, 49, 53, 50, 53, 51, 53, 52, 53, 53, 53, 54, 53, 55, 53, 56, 53, 57, 54, 48, 54, 49, 54, 50, 54, 51, 54, 52, 54, 53, 54, 54, 54, 55, 54, 56, 54, 57, 55, 48, 55, 49, 55, 50, 55, 51, 55, 52, 55, 53, 55, 54, 55, 55, 55, 56, 55, 57, 56, 48, 56, 49, 56, 50, 56, 51, 56, 52, 56, 53, 56, 54, 56, 55, 56, 56, 56, 57, 57, 48, 57, 49, 57, 50, 57, 51, 57, 52, 57, 53, 57, 54, 57, 55, 57, 56, 57, 57])) (.t 152), [7], none⟩,
    ⟨(some 154), .mov (.t 16), [], none⟩,
    ⟨(some 155), .index none (.c (.str [48, 48, 48, 49, 48, 50, 48, 51, 48, 52, 48, 53, 48, 54, 48, 55, 48, 56, 48, 57, 49, 48, 49, 49, 49, 50, 49, 51, 49, 52, 49, 53, 49, 54, 49, 55, 49, 56, 49, 57, 50, 48, 50, 49, 50, 50, 50, 51, 50, 52, 50, 53, 50, 54, 50, 55, 50, 56, 50, 57, 51, 48, 51, 49, 51, 50, 51, 51, 51, 52, 51, 53, 51, 54, 51, 55, 51, 56, 51, 57, 52, 48, 52, 49, 52, 50, 52, 51, 52, 52, 52, 53, 52, 54, 52, 55, 52, 56, 52, 57, 53, 48, 53, 49, 53, 50, 53, 51, 53, 52, 53, 53, 53, 54, 53, 55, 53, 56, 53, 57, 54, 48, 54, 49, 54, 50, 54, 51, 54, 52, 54, 53, 54, 54, 54, 55, 54, 56, 54, 57, 55, 48, 55, 49, 55, 50, 55, 51, 55, 52, 55, 53, 55, 54, 55, 55, 55, 56, 55, 57, 56, 48, 56, 49, 56, 50, 56, 51, 56, 52, 56, 53, 56, 54, 56, 55, 56, 56, 56, 57, 57, 48, 57, 49, 57, 50, 57, 51, 57, 52, 57, 53, 57, 54, 57, 55, 57, 56, 57, 57])) (.t 154), [9], none⟩,
    ⟨(some 156), .iaddr none 1 (.t 145) (.t 147), [0, 2, 0, 1, 2, 6, 7, 8], none⟩,
    ⟨none, .store 1 (.t 156) (.t 153), [11, 8, 0, 1, 2, 6, 7, 8], none⟩,
    ⟨(some 157), .iaddr none 1 (.t 148) (.t 150), [3, 5, 0, 1, 2, 3, 4, 5, 6, 7, 8, 9, 10, 11, 12], none⟩,
    ⟨none, .store 1 (.t 157) (.t 155), [13, 10, 12, 0, 1, 2, 3, 4, 5, 6, 7, 8, 9, 10, 11, 12], none⟩] [] [16, 145, 146, 147, 148, 149, 150, 151, 152, 153, 154, 155, 156, 157])
  (.region [⟨(some 158), .mov (.t 4), [], none⟩,
    ⟨(some 159), .bin .sub (.t 158) (.c (.int .i64 2)), [0], none⟩,
    ⟨(some 4), .mov (.t 159), [1, 0, 1], none⟩] [] [158, 159]))))
  .skip))
 (.seq (.region [⟨(some 160), .mov (.t 4), [], none⟩,
   ⟨(some 161), .bin .gtr (.t 160) (.c (.int .i64 0)), [0], none⟩] [] [4, 139, 160])
 (.cond (.t 161)
  (.region [⟨(some 162), .mov (.t 0), [], none⟩,
    ⟨(some 163), .mov (.t 12), [], none⟩,
    ⟨(some 164), .bin .add (.c (.int .u32 48)) (.t 163), [1], none⟩,
    ⟨(some 165), .conv .u8 (.t 164), [2], none⟩,
    ⟨(some 166), .iaddr none 1 (.t 162) (.c (.int .i64 0)), [0, 0, 1, 2, 3], none⟩,
    ⟨none, .store 1 (.t 166) (.t 165), [4, 3, 0, 1, 2, 3], none⟩] [] [0, 12, 161, 162, 163, 164, 165, 166])
  .skip)))))))⟩

-- internal/strconv.formatBits
def s105 : SFn := ⟨102, [.tmp 10, .tmp 11],
 (.seq (.region [⟨(some 10), .mov (.c .nilsl), [], none⟩,
   ⟨(some 11), .mov (.c (.str [])), [0], none⟩] [] [])
 (.seq (.seq (.region [⟨(some 19), .mov (.t 2), [], none⟩,
   ⟨(some 20), .bin .lss (.t 19) (.c (.int .i64 2)), [0], none⟩,
   ⟨(some 21), .mov (.t 20), [1], none⟩,
   ⟨(some 22), .mov (.t 2), [2], (some (21, false))⟩,
   ⟨(some 23), .bin .eql (.t 22) (.c (.int .i64 10)), [3, 2], (some (21, false))⟩,
   ⟨(some 24), .pick (.t 21) (.c (.bool true)) (.t 23), [2, 4], none⟩,
   ⟨(some 25), .mov (.t 24), [5, 2], none⟩,
   ⟨(some 26), .mov (.t 2), [6], (some (25, false))⟩,
   ⟨(some 27), .bin .gtr (.t 26) (.c (.int .i64 36)), [7, 6], (some (25, false))⟩,
   ⟨(some 28), .pick (.t 25) (.c (.bool true)) (.t 27), [6, 8], none⟩] [] [19, 20, 21, 22, 23, 24, 25, 26, 27])
 (.cond (.t 28)
  (.region [⟨(some 29), .bad, [], none⟩,
    ⟨none, .bad, [0], none⟩] [] [28, 29])
  .skip))
 (.seq (.region [⟨(some 12), .alloc .dyn (.agg [(.int .u8 0), (.int .u8 0), (.int .u8 0), (.int .u8 0), (.int .u8 0), (.int .u8 0), (.int .u8 0), (.int .u8 0), (.int .u8 0), (.int .u8 0), (.int .u8 0), (.int .u8 0), (.int .u8 0), (.int .u8 0), (.int .u8 0), (.int .u8 0), (.int .u8 0), (.int .u8 0), (.int .u8 0), (.int .u8 0), (.int .u8 0), (.int .u8 0), (.int .u8 0), (.int .u8 0), (.int .u8 0), (.int .u8 0), (.int .u8 0), (.int .u8 0), (.int .u8 0), (.int .u8 0), (.int .u8 0), (.int .u8 0), (.int .u8 0), (.int .u8 0), (.int .u8 0), (.int .u8 0), (.int .u8 0), (.int .u8 0), (.int .u8 0), (.int .u8 0), (.int .u8 0), (.int .u8 0), (.int .u8 0), (.int .u8 0), (.int .u8 0), (.int .u8 0), (.int .u8 0), (.int .u8 0), (.int .u8 0), (.int .u8 0), (.int .u8 0), (.int .u8 0), (.int .u8 0), (.int .u8 0), (.int .u8 0), (.int .u8 0), (.int .u8 0), (.int .u8 0), (.int .u8 0), (.int .u8 0), (.int .u8 0), (.int .u8 0), (.int .u8 0), (.int .u8 0), (.int .u8 0)]), [], none⟩] [] [28])
 (.seq (.region [⟨(some 13), .mov (.c (.int .i64 65)), [], none⟩] [] [])
 (.seq (.seq (.region [⟨(some 30), .mov (.t 3), [], none⟩] [] [])
 (.cond (.t 30)
  (.region [⟨(some 31), .mov (.t 1), [], none⟩,
    ⟨(some 32), .un .neg (.t 31), [0], none⟩,
    ⟨(some 1), .mov (.t 32), [1, 0, 1], none⟩] [] [30, 31, 32])
  .skip))
 (.seq (.seq (.region [⟨(some 33), .mov (.t 2), [], none⟩,
   ⟨(some 34), .call .heap (.f 115) [(.t 33)], [0], none⟩] [] [30, 33])
 (.cond (.t 34)
  (.seq (.region [⟨(some 35), .mov (.t 2), [], none⟩,
    ⟨(some 36), .conv .u64 (.t 35), [0], none⟩,
    ⟨(some 37), .call .heap (.f 116) [(.t 36)], [1], none⟩,
    ⟨(some 38), .conv .u64 (.t 37), [2], none⟩,
    ⟨(some 14), .mov (.t 38), [3, 2, 0, 1, 2, 3], none⟩] [] [34, 35, 36, 37, 38])
  (.seq (.region [⟨(some 39), .mov (.t 2), [], none⟩,
    ⟨(some 40), .conv .u64 (.t 39), [0], none⟩,
    ⟨(some 15), .mov (.t 40), [1, 0, 1], none⟩] [] [39, 40])
  (.seq (.region [⟨(some 41), .mov (.t 2), [], none⟩,
    ⟨(some 42), .conv .u64 (.t 41), [0], none⟩,
    ⟨(some 43), .bin .sub (.t 42) (.c (.int .u64 1)), [1], none⟩,
    ⟨(some 16), .mov (.t 43), [2, 0, 1, 2], none⟩] [] [2, 41, 42, 43])
  (.seq (.block 0 (.loop (.seq (.seq (.region [⟨(some 44), .mov (.t 1), [], none⟩,
    ⟨(some 45), .mov (.t 15), [], none⟩,
    ⟨(some 46), .bin .geq (.t 44) (.t 45), [0, 1], none⟩] [] [44, 45])
  (.cond (.t 46)
   .skip
   (.exit 0)))
  (.block 1 (.seq (.region [⟨(some 47), .mov (.t 13), [], none⟩,
    ⟨(some 48), .bin .sub (.t 47) (.c (.int .i64 1)), [0], none⟩,
    ⟨(some 13), .mov (.t 48), [1, 0, 1], none⟩] [] [46, 47, 48])
  (.seq (.region [⟨(some 49), .mov (.t 13), [], none⟩,
    ⟨(some 50), .mov (.t 1), [], none⟩,
    ⟨(some 51), .mov (.t 16), [], none⟩,
    ⟨(some 52), .bin .and (.t 50) (.t 51), [1, 2], none⟩,
    ⟨(some 53), .index none (.c (.str [48, 49, 50, 51, 52, 53, 54, 55, 56, 57, 97, 98, 99, 100, 101, 102, 103, 104, 105, 106, 107, 108, 109, 110, 111, 112, 113, 114, 115, 116, 117, 118, 119, 120, 121, 122])) (.t 52), [3], none⟩,
    ⟨(some 54), .iaddr (some 65) 1 (.t 12) (.t 49), [0, 0, 1, 2, 3, 4], none⟩,
    ⟨none, .store 1 (.t 54) (.t 53), [5, 4, 0, 1, 2, 3, 4], none⟩] [] [49, 50, 51, 52, 53, 54])
  (.region [⟨(some 55), .mov (.t 1), [], none⟩,
    ⟨(some 56), .mov (.t 14), [], none⟩,
    ⟨(some 57), .bin .shr (.t 55) (.t 56), [0, 1], none⟩,
    ⟨(some 1), .mov (.t 57), [2, 0, 1, 2], none⟩] [] [55, 56, 57])))))))
  (.seq (.region [⟨(some 58), .mov (.t 13), [], none⟩,
    ⟨(some 59), .bin .sub (.t 58) (.c (.int .i64 1)), [0], none⟩,
    ⟨(some 13), .mov (.t 59), [1, 0, 1], none⟩] [] [14, 15, 16, 58, 59])
  (.region [⟨(some 60), .mov (.t 13), [], none⟩,
    ⟨(some 61), .mov (.t 1), [], none⟩,
    ⟨(some 62), .index none (.c (.str [48, 49, 50, 51, 52, 53, 54, 55, 56, 57, 97, 98, 99, 100, 101, 102, 103, 104, 105, 106, 107, 108, 109, 110, 111, 112, 113, 114, 115, 116, 117, 118, 119, 120, 121, 122])) (.t 61), [1], none⟩,
    ⟨(some 63), .iaddr (some 65) 1 (.t 12) (.t 60), [0, 0, 1, 2], none⟩,
    ⟨none, .store 1 (.t 63) (.t 62), [3, 2, 0, 1, 2], none⟩] [] [1, 60, 61, 62, 63]))))))
  (.seq (.region [⟨(some 64), .mov (.t 2), [], none⟩,
    ⟨(some 65), .conv .u64 (.t 64), [0], none⟩,
    ⟨(some 17), .mov (.t 65), [1, 0, 1], none⟩] [] [2, 34, 64, 65])
  (.seq (.block 2 (.loop (.seq (.seq (.region [⟨(some 66), .mov (.t 1), [], none⟩,
    ⟨(some 67), .mov (.t 17), [], none⟩,
    ⟨(some 68), .bin .geq (.t 66) (.t 67), [0, 1], none⟩] [] [66, 67])
  (.cond (.t 68)
   .skip
   (.exit 2)))
  (.block 3 (.seq (.region [⟨(some 69), .mov (.t 13), [], none⟩,
    ⟨(some 70), .bin .sub (.t 69) (.c (.int .i64 1)), [0], none⟩,
    ⟨(some 13), .mov (.t 70), [1, 0, 1], none⟩] [] [68, 69, 70])
  (.seq (.region [⟨(some 71), .mov (.t 1), [], none⟩,
    ⟨(some 72), .mov (.t 17), [], none⟩,
    ⟨(some 73), .bin .quo (.t 71) (.t 72), [0, 1], none⟩,
    ⟨(some 18), .mov (.t 73), [2, 0, 1, 2], none⟩] [] [71, 72, 73])
  (.seq (.region [⟨(some 74), .mov (.t 13), [], none⟩,
    ⟨(some 75), .mov (.t 1), [], none⟩,
    ⟨(some 76), .mov (.t 18), [], none⟩,
    ⟨(some 77), .mov (.t 17), [], none⟩,
    ⟨(some 78), .bin .mul (.t 76) (.t 77), [2, 3], none⟩,
    ⟨(some 79), .bin .sub (.t 75) (.t 78), [1, 4], none⟩,
    ⟨(some 80), .index none (.c (.str [48, 49, 50, 51, 52, 53, 54, 55, 56, 57, 97, 98, 99, 100, 101, 102, 103, 104, 105, 106, 107, 108, 109, 110, 111, 112, 113, 114, 115, 116, 117, 118, 119, 120, 121, 122])) (.t 79), [5], none⟩,
    ⟨(some 81), .iaddr (some 65) 1 (.t 12) (.t 74), [0, 0, 1, 2, 3, 4, 5, 6], none⟩,
    ⟨none, .store 1 (.t 81) (.t 80), [7, 6, 0, 1, 2, 3, 4, 5, 6], none⟩] [] [1, 74, 75, 76, 77, 78, 79, 80, 81])
  (.region [⟨(some 82), .mov (.t 18), [], none⟩,
    ⟨(some 1), .mov (.t 82), [0, 0], none⟩] [] [18, 82]))))))))
  (.seq (.region [⟨(some 83), .mov (.t 13), [], none⟩,
    ⟨(some 84), .bin .sub (.t 83) (.c (.int .i64 1)), [0], none⟩,
    ⟨(some 13), .mov (.t 84), [1, 0, 1], none⟩] [] [17, 83, 84])
  (.region [⟨(some 85), .mov (.t 13), [], none⟩,
    ⟨(some 86), .mov (.t 1), [], none⟩,
    ⟨(some 87), .index none (.c (.str [48, 49, 50, 51, 52, 53, 54, 55, 56, 57, 97, 98, 99, 100, 101, 102, 103, 104, 105, 106, 107, 108, 109, 110, 111, 112, 113, 114, 115, 116, 117, 118, 119, 120, 121, 122])) (.t 86), [1], none⟩,
    ⟨(some 88), .iaddr (some 65) 1 (.t 12) (.t 85), [0, 0, 1, 2], none⟩,
    ⟨none, .store 1 (.t 88) (.t 87), [3, 2, 0, 1, 2], none⟩] [] [1, 85, 86, 87, 88]))))))
 (.seq (.seq (.region [⟨(some 89), .mov (.t 3), [], none⟩] [] [3])
 (.cond (.t 89)
  (.seq (.region [⟨(some 90), .mov (.t 13), [], none⟩,
    ⟨(some 91), .bin .sub (.t 90) (.c (.int .i64 1)), [0], none⟩,
    ⟨(some 13), .mov (.t 91), [1, 0, 1], none⟩] [] [89, 90, 91])
  (.region [⟨(some 92), .mov (.t 13), [], none⟩,
    ⟨(some 93), .iaddr (some 65) 1 (.t 12) (.t 92), [0, 0], none⟩,
    ⟨none, .store 1 (.t 93) (.c (.int .u8 45)), [1, 0], none⟩] [] [12, 92, 93]))
  .skip))
 (.seq (.seq (.region [⟨(some 94), .mov (.t 4), [], none⟩] [] [4, 12, 89])
 (.cond (.t 94)
  (.seq (.region [⟨(some 95), .mov (.t 0), [], none⟩,
    ⟨(some 96), .mov (.t 13), [], none⟩,
    ⟨(some 97), .bad, [1], none⟩,
    ⟨(some 98), .append .dyn 1 1 (.t 95) (.t 97), [0, 2], none⟩,
    ⟨(some 10), .mov (.t 98), [3, 3, 0, 1, 2, 3], none⟩] [] [0, 13, 94, 95, 96, 97, 98])
  .ret)
  .skip))
 (.seq (.region [⟨(some 99), .mov (.t 13), [], none⟩,
   ⟨(some 100), .bad, [0], none⟩,
   ⟨(some 101), .bad, [1], none⟩,
   ⟨(some 11), .mov (.t 101), [2, 0, 1, 2], none⟩] [] [0, 13, 94, 99, 100, 101])
 .ret)))))))))⟩

-- slices.siftDownOrdered[int]
def s106 : SFn := ⟨76, [],
 (.seq (.region [⟨(some 10), .mov (.t 1), [], none⟩,
   ⟨(some 8), .mov (.t 10), [0, 0], none⟩] [] [1, 10])
 (.block 0 (.loop (.block 1 (.seq (.region [⟨(some 11), .mov (.t 8), [], none⟩,
   ⟨(some 12), .bin .mul (.c (.int .i64 2)) (.t 11), [0], none⟩,
   ⟨(some 13), .bin .add (.t 12) (.c (.int .i64 1)), [1], none⟩,
   ⟨(some 9), .mov (.t 13), [2, 0, 1, 2], none⟩] [] [11, 12, 13])
 (.seq (.seq (.region [⟨(some 14), .mov (.t 9), [], none⟩,
   ⟨(some 15), .mov (.t 2), [], none⟩,
   ⟨(some 16), .bin .geq (.t 14) (.t 15), [0, 1], none⟩] [] [14, 15])
 (.cond (.t 16)
  (.exit 0)
  .skip))
 (.seq (.seq (.region [⟨(some 17), .mov (.t 9), [], none⟩,
   ⟨(some 18), .bin .add (.t 17) (.c (.int .i64 1)), [0], none⟩,
   ⟨(some 19), .mov (.t 2), [], none⟩,
   ⟨(some 20), .bin .lss (.t 18) (.t 19), [1, 2], none⟩,
   ⟨(some 21), .mov (.t 20), [3], none⟩,
   ⟨(some 22), .mov (.t 0), [4], (some (21, true))⟩,
   ⟨(some 23), .mov (.t 3), [4], (some (21, true))⟩,
   ⟨(some 24), .mov (.t 9), [4], (some (21, true))⟩,
   ⟨(some 25), .bin .add (.t 23) (.t 24), [6, 7, 4], (some (21, true))⟩,
   ⟨(some 26), .iaddr none 1 (.t 22) (.t 25), [5, 8, 4], (some (21, true))⟩,
   ⟨(some 27), .load none (.t 26), [9, 4], (some (21, true))⟩,
   ⟨(some 28), .mov (.t 0), [4], (some (21, true))⟩,
   ⟨(some 29), .mov (.t 3), [4], (some (21, true))⟩,
   ⟨(some 30), .mov (.t 9), [4], (some (21, true))⟩,
   ⟨(some 31), .bin .add (.t 29) (.t 30), [12, 13, 4], (some (21, true))⟩,
   ⟨(some 32), .bin .add (.t 31) (.c (.int .i64 1)), [14, 4], (some (21, true))⟩,
   ⟨(some 33), .iaddr none 1 (.t 28) (.t 32), [11, 15, 4], (some (21, true))⟩,
   ⟨(some 34), .load none (.t 33), [16, 4], (some (21, true))⟩,
   ⟨(some 35), .call .heap (.f 91) [(.t 27), (.t 34)], [10, 17, 4, 4], (some (21, true))⟩,
   ⟨(some 36), .pick (.t 21) (.t 35) (.c (.bool false)), [4, 18], none⟩] [] [16, 17, 18, 19, 20, 21])
 (.cond (.t 36)
  (.region [⟨(some 37), .mov (.t 9), [], none⟩,
    ⟨(some 38), .bin .add (.t 37) (.c (.int .i64 1)), [0], none⟩,
    ⟨(some 9), .mov (.t 38), [1, 0, 1], none⟩] [] [36, 37, 38])
  .skip))
 (.seq (.seq (.region [⟨(some 39), .mov (.t 0), [], none⟩,
   ⟨(some 40), .mov (.t 3), [], none⟩,
   ⟨(some 41), .mov (.t 8), [], none⟩,
   ⟨(some 42), .bin .add (.t 40) (.t 41), [1, 2], none⟩,
   ⟨(some 43), .iaddr none 1 (.t 39) (.t 42), [0, 3], none⟩,
   ⟨(some 44), .load none (.t 43), [4], none⟩,
   ⟨(some 45), .mov (.t 0), [], none⟩,
   ⟨(some 46), .mov (.t 3), [], none⟩,
   ⟨(some 47), .mov (.t 9), [], none⟩,
   ⟨(some 48), .bin .add (.t 46) (.t 47), [7, 8], none⟩,
   ⟨(some 49), .iaddr none 1 (.t 45) (.t 48), [6, 9], none⟩,
   ⟨(some 50), .load none (.t 49), [10], none⟩,
   ⟨(some 51), .call .heap (.f 91) [(.t 44), (.t 50)], [5, 11], none⟩,
   ⟨(some 52), .un .not (.t 51), [12], none⟩] [] [36, 39, 40, 41, 42, 43, 44, 45, 46, 47, 48, 49, 50, 51])
 (.cond (.t 52)
  .ret
  .skip))
 (.seq (.region [⟨(some 53), .mov (.t 0), [], none⟩,
   ⟨(some 54), .mov (.t 3), [], none⟩,
   ⟨(some 55), .mov (.t 8), [], none⟩,
   ⟨(some 56), .bin .add (.t 54) (.t 55), [1, 2], none⟩,
   ⟨(some 57), .mov (.t 0), [], none⟩,
   ⟨(some 58), .mov (.t 3), [], none⟩,
   ⟨(some 59), .mov (.t 9), [], none⟩,
   ⟨(some 60), .bin .add (.t 58) (.t 59), [5, 6], none⟩,
   ⟨(some 61), .mov (.t 0), [], none⟩,
   ⟨(some 62), .mov (.t 3), [], none⟩,
   ⟨(some 63), .mov (.t 9), [], none⟩,
   ⟨(some 64), .bin .add (.t 62) (.t 63), [9, 10], none⟩,
   ⟨(some 65), .iaddr none 1 (.t 61) (.t 64), [8, 11], none⟩,
   ⟨(some 66), .load none (.t 65), [12], none⟩,
   ⟨(some 67), .mov (.t 0), [], none⟩,
   ⟨(some 68), .mov (.t 3), [], none⟩,
   ⟨(some 69), .mov (.t 8), [], none⟩,
   ⟨(some 70), .bin .add (.t 68) (.t 69), [15, 16], none⟩,
   ⟨(some 71), .iaddr none 1 (.t 67) (.t 70), [14, 17], none⟩,
   ⟨(some 72), .load none (.t 71), [18], none⟩,
   ⟨(some 73), .iaddr none 1 (.t 53) (.t 56), [0, 3, 0, 1, 2, 3, 8, 9, 10, 11, 12, 13, 19], none⟩,
   ⟨none, .store 1 (.t 73) (.t 66), [20, 13, 0, 1, 2, 3, 8, 9, 10, 11, 12, 13, 19], none⟩,
   ⟨(some 74), .iaddr none 1 (.t 57) (.t 60), [4, 7, 0, 1, 2, 3, 4, 5, 6, 7, 8, 9, 10, 11, 12, 13, 14, 15, 16, 17, 18, 19, 20, 21], none⟩,
   ⟨none, .store 1 (.t 74) (.t 72), [22, 19, 21, 0, 1, 2, 3, 4, 5, 6, 7, 8, 9, 10, 11, 12, 13, 14, 15, 16, 17, 18, 19, 20, 21], none⟩] [] [8, 52, 53, 54, 55, 56, 57, 58, 59, 60, 61, 62, 63, 64, 65, 66, 67, 68, 69, 70, 71, 72, 73, 74])
 (.region [⟨(some 75), .mov (.t 9), [], none⟩,
   ⟨(some 8), .mov (.t 75), [0, 0], none⟩] [] [9, 75]))))))))))⟩

-- slices.nextPowerOfTwo
def s107 : SFn := ⟨7, [.tmp 2],
 (.seq (.region [⟨(some 2), .mov (.c (.int .u64 0)), [], none⟩] [] [2])
 (.seq (.region [⟨(some 3), .mov (.t 0), [], none⟩,
   ⟨(some 4), .conv .u64 (.t 3), [0], none⟩,
   ⟨(some 5), .call .heap (.f 72) [(.t 4)], [1], none⟩,
   ⟨(some 6), .bin .shl (.c (.int .u64 1)) (.t 5), [2], none⟩,
   ⟨(some 2), .mov (.t 6), [3, 2, 0, 1, 2, 3], none⟩] [] [0, 3, 4, 5, 6])
 .ret))⟩

-- (*slices.xorshift).Next
def s108 : SFn := ⟨33, [.tmp 2],
 (.seq (.region [⟨(some 2), .mov (.c (.int .u64 0)), [], none⟩] [] [2])
 (.seq (.region [⟨(some 3), .mov (.t 0), [], none⟩,
   ⟨(some 4), .nilchk (.t 3), [0], none⟩,
   ⟨(some 5), .load none (.t 4), [1], none⟩,
   ⟨(some 6), .mov (.t 0), [], none⟩,
   ⟨(some 7), .nilchk (.t 6), [3], none⟩,
   ⟨(some 8), .load none (.t 7), [4], none⟩,
   ⟨(some 9), .bin .shl (.t 8) (.c (.int .u64 13)), [5], none⟩,
   ⟨(some 10), .bin .xor (.t 5) (.t 9), [2, 6], none⟩,
   ⟨(some 11), .nilchk (.t 3), [0, 0, 1, 2, 3, 4, 5, 6, 7], none⟩,
   ⟨none, .store 1 (.t 11) (.t 10), [8, 7, 0, 1, 2, 3, 4, 5, 6, 7], none⟩] [] [3, 4, 5, 6, 7, 8, 9, 10, 11])
 (.seq (.region [⟨(some 12), .mov (.t 0), [], none⟩,
   ⟨(some 13), .nilchk (.t 12), [0], none⟩,
   ⟨(some 14), .load none (.t 13), [1], none⟩,
   ⟨(some 15), .mov (.t 0), [], none⟩,
   ⟨(some 16), .nilchk (.t 15), [3], none⟩,
   ⟨(some 17), .load none (.t 16), [4], none⟩,
   ⟨(some 18), .bin .shr (.t 17) (.c (.int .u64 7)), [5], none⟩,
   ⟨(some 19), .bin .xor (.t 14) (.t 18), [2, 6], none⟩,
   ⟨(some 20), .nilchk (.t 12), [0, 0, 1, 2, 3, 4, 5, 6, 7], none⟩,
   ⟨none, .store 1 (.t 20) (.t 19), [8, 7, 0, 1, 2, 3, 4, 5, 6, 7], none⟩] [] [12, 13, 14, 15, 16, 17, 18, 19, 20])
 (.seq (.region [⟨(some 21), .mov (.t 0), [], none⟩,
   ⟨(some 22), .nilchk (.t 21), [0], none⟩,
   ⟨(some 23), .load none (.t 22), [1], none⟩,
   ⟨(some 24), .mov (.t 0), [], none⟩,
   ⟨(some 25), .nilchk (.t 24), [3], none⟩,
   ⟨(some 26), .load none (.t 25), [4], none⟩,
   ⟨(some 27), .bin .shl (.t 26) (.c (.int .u64 17)), [5], none⟩,
   ⟨(some 28), .bin .xor (.t 23) (.t 27), [2, 6], none⟩,
   ⟨(some 29), .nilchk (.t 21), [0, 0, 1, 2, 3, 4, 5, 6, 7], none⟩,
   ⟨none, .store 1 (.t 29) (.t 28), [8, 7, 0, 1, 2, 3, 4, 5, 6, 7], none⟩] [] [21, 22, 23, 24, 25, 26, 27, 28, 29])
 (.seq (.region [⟨(some 30), .mov (.t 0), [], none⟩,
   ⟨(some 31), .nilchk (.t 30), [0], none⟩,
   ⟨(some 32), .load none (.t 31), [1], none⟩,
   ⟨(some 2), .mov (.t 32), [2, 0, 1, 2], none⟩] [] [0, 30, 31, 32])
 .ret)))))⟩

-- slices.medianAdjacentOrdered[int]
def s109 : SFn := ⟨15, [.tmp 6],
 (.seq (.region [⟨(some 6), .mov (.c (.int .i64 0)), [], none⟩] [] [6])
 (.seq (.region [⟨(some 7), .mov (.t 0), [], none⟩,
   ⟨(some 8), .mov (.t 1), [], none⟩,
   ⟨(some 9), .bin .sub (.t 8) (.c (.int .i64 1)), [1], none⟩,
   ⟨(some 10), .mov (.t 1), [], none⟩,
   ⟨(some 11), .mov (.t 1), [], none⟩,
   ⟨(some 12), .bin .add (.t 11) (.c (.int .i64 1)), [4], none⟩,
   ⟨(some 13), .mov (.t 2), [], none⟩,
   ⟨(some 14), .call .heap (.f 110) [(.t 7), (.t 9), (.t 10), (.t 12), (.t 13)], [0, 2, 3, 5, 6], none⟩,
   ⟨(some 6), .mov (.t 14), [7, 7, 0, 1, 2, 3, 4, 5, 6, 7], none⟩] [] [0, 1, 2, 7, 8, 9, 10, 11, 12, 13, 14])
 .ret))⟩

-- slices.medianOrdered[int]
def s110 : SFn := ⟨36, [.tmp 10],
 (.seq (.region [⟨(some 10), .mov (.c (.int .i64 0)), [], none⟩] [] [10])
 (.seq (.region [⟨(some 12), .mov (.t 0), [], none⟩,
   ⟨(some 13), .mov (.t 1), [], none⟩,
   ⟨(some 14), .mov (.t 2), [], none⟩,
   ⟨(some 15), .mov (.t 4), [], none⟩,
   ⟨(some 16), .call .heap (.f 117) [(.t 12), (.t 13), (.t 14), (.t 15)], [0, 1, 2, 3], none⟩,
   ⟨(some 11), .mov (.t 16), [4], none⟩,
   ⟨(some 17), .extract 0 (.t 11), [5], none⟩,
   ⟨(some 18), .extract 1 (.t 11), [5], none⟩,
   ⟨(some 1), .mov (.t 17), [6, 4, 0, 1, 2, 3, 4, 5, 6], none⟩,
   ⟨(some 2), .mov (.t 18), [7, 8, 0, 1, 2, 3, 4, 5, 6, 7, 8], none⟩] [] [12, 13, 14, 15, 16, 11, 17, 18])
 (.seq (.region [⟨(some 20), .mov (.t 0), [], none⟩,
   ⟨(some 21), .mov (.t 2), [], none⟩,
   ⟨(some 22), .mov (.t 3), [], none⟩,
   ⟨(some 23), .mov (.t 4), [], none⟩,
   ⟨(some 24), .call .heap (.f 117) [(.t 20), (.t 21), (.t 22), (.t 23)], [0, 1, 2, 3], none⟩,
   ⟨(some 19), .mov (.t 24), [4], none⟩,
   ⟨(some 25), .extract 0 (.t 19), [5], none⟩,
   ⟨(some 26), .extract 1 (.t 19), [5], none⟩,
   ⟨(some 2), .mov (.t 25), [6, 4, 0, 1, 2, 3, 4, 5, 6], none⟩,
   ⟨(some 3), .mov (.t 26), [7, 8, 0, 1, 2, 3, 4, 5, 6, 7, 8], none⟩] [] [3, 20, 21, 22, 23, 24, 19, 25, 26])
 (.seq (.region [⟨(some 28), .mov (.t 0), [], none⟩,
   ⟨(some 29), .mov (.t 1), [], none⟩,
   ⟨(some 30), .mov (.t 2), [], none⟩,
   ⟨(some 31), .mov (.t 4), [], none⟩,
   ⟨(some 32), .call .heap (.f 117) [(.t 28), (.t 29), (.t 30), (.t 31)], [0, 1, 2, 3], none⟩,
   ⟨(some 27), .mov (.t 32), [4], none⟩,
   ⟨(some 33), .extract 0 (.t 27), [5], none⟩,
   ⟨(some 34), .extract 1 (.t 27), [5], none⟩,
   ⟨(some 1), .mov (.t 33), [6, 4, 0, 1, 2, 3, 4, 5, 6], none⟩,
   ⟨(some 2), .mov (.t 34), [7, 8, 0, 1, 2, 3, 4, 5, 6, 7, 8], none⟩] [] [0, 1, 4, 28, 29, 30, 31, 32, 27, 33, 34])
 (.seq (.region [⟨(some 35), .mov (.t 2), [], none⟩,
   ⟨(some 10), .mov (.t 35), [0, 0], none⟩] [] [2, 35])
 .ret)))))⟩

-- cmp.isNaN[int]
def s111 : SFn := ⟨6, [.tmp 2],
 (.seq (.region [⟨(some 2), .mov (.c (.bool false)), [], none⟩] [] [2])
 (.seq (.region [⟨(some 3), .mov (.t 0), [], none⟩,
   ⟨(some 4), .mov (.t 0), [], none⟩,
   ⟨(some 5), .bin .neq (.t 3) (.t 4), [0, 1], none⟩,
   ⟨(some 2), .mov (.t 5), [2, 0, 1, 2], none⟩] [] [0, 3, 4, 5])
 .ret))⟩

-- internal/strconv.log10Pow2
def s113 : SFn := ⟨6, [.tmp 2],
 (.seq (.region [⟨(some 2), .mov (.c (.int .i64 0)), [], none⟩] [] [2])
 (.seq (.region [⟨(some 3), .mov (.t 0), [], none⟩,
   ⟨(some 4), .bin .mul (.t 3) (.c (.int .i64 78913)), [0], none⟩,
   ⟨(some 5), .bin .shr (.t 4) (.c (.int .u64 18)), [1], none⟩,
   ⟨(some 2), .mov (.t 5), [2, 0, 1, 2], none⟩] [] [0, 3, 4, 5])
 .ret))⟩

-- internal/strconv.bool2[int]
def s114 : SFn := ⟨4, [.tmp 2],
 (.seq (.region [⟨(some 2), .mov (.c (.int .i64 0)), [], none⟩] [] [2])
 (.seq (.seq (.region [⟨(some 3), .mov (.t 0), [], none⟩] [] [0])
 (.cond (.t 3)
  (.seq (.region [⟨(some 2), .mov (.c (.int .i64 1)), [], none⟩] [] [3])
  .ret)
  .skip))
 (.seq (.region [⟨(some 2), .mov (.c (.int .i64 0)), [], none⟩] [] [3])
 .ret)))⟩

-- internal/strconv.isPowerOfTwo
def s115 : SFn := ⟨8, [.tmp 2],
 (.seq (.region [⟨(some 2), .mov (.c (.bool false)), [], none⟩] [] [2])
 (.seq (.region [⟨(some 3), .mov (.t 0), [], none⟩,
   ⟨(some 4), .mov (.t 0), [], none⟩,
   ⟨(some 5), .bin .sub (.t 4) (.c (.int .i64 1)), [1], none⟩,
   ⟨(some 6), .bin .and (.t 3) (.t 5), [0, 2], none⟩,
   ⟨(some 7), .bin .eql (.t 6) (.c (.int .i64 0)), [3], none⟩,
   ⟨(some 2), .mov (.t 7), [4, 0, 1, 2, 3, 4], none⟩] [] [0, 3, 4, 5, 6, 7])
 .ret))⟩

-- math/bits.TrailingZeros
def s116 : SFn := ⟨8, [.tmp 2],
 (.seq (.region [⟨(some 2), .mov (.c (.int .i64 0)), [], none⟩] [] [2])
 (.seq (.cond (.c (.bool false))
  (.seq (.region [⟨(some 3), .mov (.t 0), [], none⟩,
    ⟨(some 4), .conv .u32 (.t 3), [0], none⟩,
    ⟨(some 5), .call .heap (.f 119) [(.t 4)], [1], none⟩,
    ⟨(some 2), .mov (.t 5), [2, 2, 0, 1, 2], none⟩] [] [0, 3, 4, 5])
  .ret)
  .skip)
 (.seq (.region [⟨(some 6), .mov (.t 0), [], none⟩,
   ⟨(some 7), .call .heap (.f 120) [(.t 6)], [0], none⟩,
   ⟨(some 2), .mov (.t 7), [1, 1, 0, 1], none⟩] [] [0, 6, 7])
 .ret)))⟩

-- slices.order2Ordered[int]
def s117 : SFn := ⟨28, [.tmp 8, .tmp 9],
 (.seq (.region [⟨(some 8), .mov (.c (.int .i64 0)), [], none⟩,
   ⟨(some 9), .mov (.c (.int .i64 0)), [0], none⟩] [] [8, 9])
 (.seq (.seq (.region [⟨(some 10), .mov (.t 0), [], none⟩,
   ⟨(some 11), .mov (.t 2), [], none⟩,
   ⟨(some 12), .iaddr none 1 (.t 10) (.t 11), [0, 1], none⟩,
   ⟨(some 13), .load none (.t 12), [2], none⟩,
   ⟨(some 14), .mov (.t 0), [], none⟩,
   ⟨(some 15), .mov (.t 1), [], none⟩,
   ⟨(some 16), .iaddr none 1 (.t 14) (.t 15), [4, 5], none⟩,
   ⟨(some 17), .load none (.t 16), [6], none⟩,
   ⟨(some 18), .call .heap (.f 91) [(.t 13), (.t 17)], [3, 7], none⟩] [] [0, 10, 11, 12, 13, 14, 15, 16, 17])
 (.cond (.t 18)
  (.seq (.region [⟨(some 19), .mov (.t 3), [], none⟩,
    ⟨(some 20), .nilchk (.t 19), [0], none⟩,
    ⟨(some 21), .load none (.t 20), [1], none⟩,
    ⟨(some 22), .bin .add (.t 21) (.c (.int .i64 1)), [2], none⟩,
    ⟨(some 23), .nilchk (.t 19), [0, 0, 1, 2, 3], none⟩,
    ⟨none, .store 1 (.t 23) (.t 22), [4, 3, 0, 1, 2, 3], none⟩] [] [3, 18, 19, 20, 21, 22, 23])
  (.seq (.region [⟨(some 24), .mov (.t 2), [], none⟩,
    ⟨(some 25), .mov (.t 1), [], none⟩,
    ⟨(some 8), .mov (.t 24), [0, 0], none⟩,
    ⟨(some 9), .mov (.t 25), [1, 2, 0, 1, 2], none⟩] [] [1, 2, 24, 25])
  .ret))
  .skip))
 (.seq (.region [⟨(some 26), .mov (.t 1), [], none⟩,
   ⟨(some 27), .mov (.t 2), [], none⟩,
   ⟨(some 8), .mov (.t 26), [0, 0], none⟩,
   ⟨(some 9), .mov (.t 27), [1, 2, 0, 1, 2], none⟩] [] [1, 2, 3, 18, 26, 27])
 .ret)))⟩

-- math/bits.TrailingZeros32
def s119 : SFn := ⟨14, [.tmp 2],
 (.seq (.region [⟨(some 2), .mov (.c (.int .i64 0)), [], none⟩] [] [2])
 (.seq (.seq (.region [⟨(some 3), .mov (.t 0), [], none⟩,
   ⟨(some 4), .bin .eql (.t 3) (.c (.int .u32 0)), [0], none⟩] [] [3])
 (.cond (.t 4)
  (.seq (.region [⟨(some 2), .mov (.c (.int .i64 32)), [], none⟩] [] [0, 4])
  .ret)
  .skip))
 (.seq (.region [⟨(some 5), .mov (.t 0), [], none⟩,
   ⟨(some 6), .mov (.t 0), [], none⟩,
   ⟨(some 7), .un .neg (.t 6), [1], none⟩,
   ⟨(some 8), .bin .and (.t 5) (.t 7), [0, 2], none⟩,
   ⟨(some 9), .bin .mul (.t 8) (.c (.int .u32 125613361)), [3], none⟩,
   ⟨(some 10), .bin .shr (.t 9) (.c (.int .u64 27)), [4], none⟩,
   ⟨(some 11), .iaddr (some 32) 1 (.g 1) (.t 10), [5], none⟩,
   ⟨(some 12), .load none (.t 11), [6], none⟩,
   ⟨(some 13), .conv .i64 (.t 12), [7], none⟩,
   ⟨(some 2), .mov (.t 13), [8, 0, 1, 2, 3, 4, 5, 6, 7, 8], none⟩] [] [0, 4, 5, 6, 7, 8, 9, 10, 11, 12, 13])
 .ret)))⟩

-- math/bits.TrailingZeros64
def s120 : SFn := ⟨14, [.tmp 2],
 (.seq (.region [⟨(some 2), .mov (.c (.int .i64 0)), [], none⟩] [] [2])
 (.seq (.seq (.region [⟨(some 3), .mov (.t 0), [], none⟩,
   ⟨(some 4), .bin .eql (.t 3) (.c (.int .u64 0)), [0], none⟩] [] [3])
 (.cond (.t 4)
  (.seq (.region [⟨(some 2), .mov (.c (.int .i64 64)), [], none⟩] [] [0, 4])
  .ret)
  .skip))
 (.seq (.region [⟨(some 5), .mov (.t 0), [], none⟩,
   ⟨(some 6), .mov (.t 0), [], none⟩,
   ⟨(some 7), .un .neg (.t 6), [1], none⟩,
   ⟨(some 8), .bin .and (.t 5) (.t 7), [0, 2], none⟩,
   ⟨(some 9), .bin .mul (.t 8) (.c (.int .u64 285870213051353865)), [3], none⟩,
   ⟨(some 10), .bin .shr (.t 9) (.c (.int .u64 58)), [4], none⟩,
   ⟨(some 11), .iaddr (some 64) 1 (.g 2) (.t 10), [5], none⟩,
   ⟨(some 12), .load none (.t 11), [6], none⟩,
   ⟨(some 13), .conv .i64 (.t 12), [7], none⟩,
   ⟨(some 2), .mov (.t 13), [8, 0, 1, 2, 3, 4, 5, 6, 7, 8], none⟩] [] [0, 4, 5, 6, 7, 8, 9, 10, 11, 12, 13])
 .ret)))⟩

def ft : FT := (.n 58 (.n 29 (.n 13 (.n 8 (.n 5 (.n 4 (.l 3 s3) (.l 4 s4)) (.n 7 (.l 5 s5) (.l 7 s7))) (.n 10 (.n 9 (.l 8 s8) (.l 9 s9)) (.n 11 (.l 10 s10) (.n 12 (.l 11 s11) (.l 12 s12))))) (.n 17 (.n 15 (.n 14 (.l 13 s13) (.l 14 s14)) (.n 16 (.l 15 s15) (.l 16 s16))) (.n 20 (.n 18 (.l 17 s17) (.l 18 s18)) (.n 27 (.l 20 s20) (.n 28 (.l 27 s27) (.l 28 s28)))))) (.n 38 (.n 33 (.n 31 (.n 30 (.l 29 s29) (.l 30 s30)) (.n 32 (.l 31 s31) (.l 32 s32))) (.n 35 (.n 34 (.l 33 s33) (.l 34 s34)) (.n 36 (.l 35 s35) (.n 37 (.l 36 s36) (.l 37 s37))))) (.n 43 (.n 40 (.n 39 (.l 38 s38) (.l 39 s39)) (.n 41 (.l 40 s40) (.n 42 (.l 41 s41) (.l 42 s42)))) (.n 45 (.n 44 (.l 43 s43) (.l 44 s44)) (.n 46 (.l 45 s45) (.n 51 (.l 46 s46) (.l 51 s51))))))) (.n 94 (.n 85 (.n 62 (.n 60 (.n 59 (.l 58 s58) (.l 59 s59)) (.n 61 (.l 60 s60) (.l 61 s61))) (.n 71 (.n 70 (.l 62 s62) (.l 70 s70)) (.n 72 (.l 71 s71) (.n 84 (.l 72 s72) (.l 84 s84))))) (.n 89 (.n 87 (.n 86 (.l 85 s85) (.l 86 s86)) (.n 88 (.l 87 s87) (.l 88 s88))) (.n 91 (.n 90 (.l 89 s89) (.l 90 s90)) (.n 92 (.l 91 s91) (.n 93 (.l 92 s92) (.l 93 s93)))))) (.n 109 (.n 104 (.n 102 (.n 95 (.l 94 s94) (.l 95 s95)) (.n 103 (.l 102 s102) (.l 103 s103))) (.n 106 (.n 105 (.l 104 s104) (.l 105 s105)) (.n 107 (.l 106 s106) (.n 108 (.l 107 s107) (.l 108 s108))))) (.n 115 (.n 111 (.n 110 (.l 109 s109) (.l 110 s110)) (.n 113 (.l 111 s111) (.n 114 (.l 113 s113) (.l 114 s114)))) (.n 117 (.n 116 (.l 115 s115) (.l 116 s116)) (.n 119 (.l 117 s117) (.n 120 (.l 119 s119) (.l 120 s120))))))))

theorem ok3 : okFn Tryd.prog 3 s3 = true := by kernel_rfl
theorem ok4 : okFn Tryd.prog 4 s4 = true := by kernel_rfl
theorem ok5 : okFn Tryd.prog 5 s5 = true := by kernel_rfl
theorem ok7 : okFn Tryd.prog 7 s7 = true := by kernel_rfl
theorem ok8 : okFn Tryd.prog 8 s8 = true := by kernel_rfl
theorem ok9 : okFn Tryd.prog 9 s9 = true := by kernel_rfl
theorem ok10 : okFn Tryd.prog 10 s10 = true := by kernel_rfl
theorem ok11 : okFn Tryd.prog 11 s11 = true := by kernel_rfl
theorem ok12 : okFn Tryd.prog 12 s12 = true := by kernel_rfl
theorem ok13 : okFn Tryd.prog 13 s13 = true := by kernel_rfl
theorem ok14 : okFn Tryd.prog 14 s14 = true := by kernel_rfl
theorem ok15 : okFn Tryd.prog 15 s15 = true := by kernel_rfl
theorem ok16 : okFn Tryd.prog 16 s16 = true := by kernel_rfl
theorem ok17 : okFn Tryd.prog 17 s17 = true := by kernel_rfl
theorem ok18 : okFn Tryd.prog 18 s18 = true := by kernel_rfl
theorem ok20 : okFn Tryd.prog 20 s20 = true := by kernel_rfl
theorem ok27 : okFn Tryd.prog 27 s27 = true := by kernel_rfl
theorem ok28 : okFn Tryd.prog 28 s28 = true := by kernel_rfl
theorem ok29 : okFn Tryd.prog 29 s29 = true := by kernel_rfl
theorem ok30 : okFn Tryd.prog 30 s30 = true := by kernel_rfl
theorem ok31 : okFn Tryd.prog 31 s31 = true := by kernel_rfl
theorem ok32 : okFn Tryd.prog 32 s32 = true := by kernel_rfl
theorem ok33 : okFn Tryd.prog 33 s33 = true := by kernel_rfl
theorem ok34 : okFn Tryd.prog 34 s34 = true := by kernel_rfl
theorem ok35 : okFn Tryd.prog 35 s35 = true := by kernel_rfl
theorem ok36 : okFn Tryd.prog 36 s36 = true := by kernel_rfl
theorem ok37 : okFn Tryd.prog 37 s37 = true := by kernel_rfl
theorem ok38 : okFn Tryd.prog 38 s38 = true := by kernel_rfl
theorem ok39 : okFn Tryd.prog 39 s39 = true := by kernel_rfl
theorem ok40 : okFn Tryd.prog 40 s40 = true := by kernel_rfl
theorem ok41 : okFn Tryd.prog 41 s41 = true := by kernel_rfl
theorem ok42 : okFn Tryd.prog 42 s42 = true := by kernel_rfl
theorem ok43 : okFn Tryd.prog 43 s43 = true := by kernel_rfl
theorem ok44 : okFn Tryd.prog 44 s44 = true := by kernel_rfl
theorem ok45 : okFn Tryd.prog 45 s45 = true := by kernel_rfl
theorem ok46 : okFn Tryd.prog 46 s46 = true := by kernel_rfl
theorem ok51 : okFn Tryd.prog 51 s51 = true := by kernel_rfl
theorem ok58 : okFn Tryd.prog 58 s58 = true := by kernel_rfl
theorem ok59 : okFn Tryd.prog 59 s59 = true := by kernel_rfl
theorem ok60 : okFn Tryd.prog 60 s60 = true := by kernel_rfl
theorem ok61 : okFn Tryd.prog 61 s61 = true := by kernel_rfl
theorem ok62 : okFn Tryd.prog 62 s62 = true := by kernel_rfl
theorem ok70 : okFn Tryd.prog 70 s70 = true := by kernel_rfl
theorem ok71 : okFn Tryd.prog 71 s71 = true := by kernel_rfl
theorem ok72 : okFn Tryd.prog 72 s72 = true := by kernel_rfl
theorem ok84 : okFn Tryd.prog 84 s84 = true := by kernel_rfl
theorem ok85 : okFn Tryd.prog 85 s85 = true := by kernel_rfl
theorem ok86 : okFn Tryd.prog 86 s86 = true := by kernel_rfl
theorem ok87 : okFn Tryd.prog 87 s87 = true := by kernel_rfl
theorem ok88 : okFn Tryd.prog 88 s88 = true := by kernel_rfl
theorem ok89 : okFn Tryd.prog 89 s89 = true := by kernel_rfl
theorem ok90 : okFn Tryd.prog 90 s90 = true := by kernel_rfl
theorem ok91 : okFn Tryd.prog 91 s91 = true := by kernel_rfl
theorem ok92 : okFn Tryd.prog 92 s92 = true := by kernel_rfl
theorem ok93 : okFn Tryd.prog 93 s93 = true := by kernel_rfl
theorem ok94 : okFn Tryd.prog 94 s94 = true := by kernel_rfl
theorem ok95 : okFn Tryd.prog 95 s95 = true := by kernel_rfl
theorem ok102 : okFn Tryd.prog 102 s102 = true := by kernel_rfl
theorem ok103 : okFn Tryd.prog 103 s103 = true := by kernel_rfl
theorem ok104 : okFn Tryd.prog 104 s104 = true := by kernel_rfl
theorem ok105 : okFn Tryd.prog 105 s105 = true := by kernel_rfl
theorem ok106 : okFn Tryd.prog 106 s106 = true := by kernel_rfl
theorem ok107 : okFn Tryd.prog 107 s107 = true := by kernel_rfl
theorem ok108 : okFn Tryd.prog 108 s108 = true := by kernel_rfl
theorem ok109 : okFn Tryd.prog 109 s109 = true := by kernel_rfl
theorem ok110 : okFn Tryd.prog 110 s110 = true := by kernel_rfl
theorem ok111 : okFn Tryd.prog 111 s111 = true := by kernel_rfl
theorem ok113 : okFn Tryd.prog 113 s113 = true := by kernel_rfl
theorem ok114 : okFn Tryd.prog 114 s114 = true := by kernel_rfl
theorem ok115 : okFn Tryd.prog 115 s115 = true := by kernel_rfl
theorem ok116 : okFn Tryd.prog 116 s116 = true := by kernel_rfl
theorem ok117 : okFn Tryd.prog 117 s117 = true := by kernel_rfl
theorem ok119 : okFn Tryd.prog 119 s119 = true := by kernel_rfl
theorem ok120 : okFn Tryd.prog 120 s120 = true := by kernel_rfl
theorem ft_ok : ft.OK Tryd.prog := ⟨⟨⟨⟨⟨⟨ok3, ok4⟩, ⟨ok5, ok7⟩⟩, ⟨⟨ok8, ok9⟩, ⟨ok10, ⟨ok11, ok12⟩⟩⟩⟩, ⟨⟨⟨ok13, ok14⟩, ⟨ok15, ok16⟩⟩, ⟨⟨ok17, ok18⟩, ⟨ok20, ⟨ok27, ok28⟩⟩⟩⟩⟩, ⟨⟨⟨⟨ok29, ok30⟩, ⟨ok31, ok32⟩⟩, ⟨⟨ok33, ok34⟩, ⟨ok35, ⟨ok36, ok37⟩⟩⟩⟩, ⟨⟨⟨ok38, ok39⟩, ⟨ok40, ⟨ok41, ok42⟩⟩⟩, ⟨⟨ok43, ok44⟩, ⟨ok45, ⟨ok46, ok51⟩⟩⟩⟩⟩⟩, ⟨⟨⟨⟨⟨ok58, ok59⟩, ⟨ok60, ok61⟩⟩, ⟨⟨ok62, ok70⟩, ⟨ok71, ⟨ok72, ok84⟩⟩⟩⟩, ⟨⟨⟨ok85, ok86⟩, ⟨ok87, ok88⟩⟩, ⟨⟨ok89, ok90⟩, ⟨ok91, ⟨ok92, ok93⟩⟩⟩⟩⟩, ⟨⟨⟨⟨ok94, ok95⟩, ⟨ok102, ok103⟩⟩, ⟨⟨ok104, ok105⟩, ⟨ok106, ⟨ok107, ok108⟩⟩⟩⟩, ⟨⟨⟨ok109, ok110⟩, ⟨ok111, ⟨ok113, ok114⟩⟩⟩, ⟨⟨ok115, ok116⟩, ⟨ok117, ⟨ok119, ok120⟩⟩⟩⟩⟩⟩⟩

end Go.AM.SlimF
