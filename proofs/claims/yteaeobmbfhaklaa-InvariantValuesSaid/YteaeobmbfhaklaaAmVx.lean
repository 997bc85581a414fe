/- The slim code of the functions that are run. -/
import Derived.Test.YteaeobmbfhaklaaAmN
import Derived.Test.YteaeobmbfhaklaaProg
import Derived.KernelRfl
set_option maxRecDepth 100000
namespace Go.AM.SV
open Go.Proofs
-- overseer/overseerlaw48.InvariantValues
def s8 : SFn := ⟨101, [.tmp 4],
 (.seq (.region [⟨(some 4), .mov (.c (.bool false)), [], none⟩] [] [4])
 (.seq (.seq (.region [⟨(some 11), .call .pure (.f 12) [], [], none⟩,
   ⟨(some 12), .un .not (.t 11), [0], none⟩,
   ⟨(some 13), .mov (.t 12), [1, 0], none⟩,
   ⟨(some 14), .mov (.t 0), [2], (some (13, false))⟩,
   ⟨(some 15), .len 1 (.t 14), [3, 2], (some (13, false))⟩,
   ⟨(some 16), .bin .gtr (.t 15) (.c (.int .i64 12)), [4, 2], (some (13, false))⟩,
   ⟨(some 17), .pick (.t 13) (.c (.bool true)) (.t 16), [2, 5], none⟩,
   ⟨(some 18), .mov (.t 17), [6, 2], none⟩,
   ⟨(some 19), .mov (.t 1), [7], (some (18, false))⟩,
   ⟨(some 20), .len 1 (.t 19), [8, 7], (some (18, false))⟩,
   ⟨(some 21), .bin .gtr (.t 20) (.c (.int .i64 12)), [9, 7], (some (18, false))⟩,
   ⟨(some 22), .pick (.t 18) (.c (.bool true)) (.t 21), [7, 10], none⟩] [] [11, 12, 13, 14, 15, 16, 17, 18, 19, 20, 21])
 (.cond (.t 22)
  (.seq (.region [⟨(some 23), .call .pure (.f 12) [], [], none⟩,
    ⟨(some 4), .mov (.t 23), [0, 0, 0], none⟩] [] [0, 1, 22, 23])
  .ret)
  .skip))
 (.seq (.region [⟨(some 25), .mov (.t 0), [], none⟩,
   ⟨(some 26), .mov (.t 1), [], none⟩,
   ⟨(some 27), .call .pure (.f 31) [(.t 25), (.t 26)], [0, 1], none⟩,
   ⟨(some 24), .mov (.t 27), [2], none⟩,
   ⟨(some 28), .extract 0 (.t 24), [3], none⟩,
   ⟨(some 29), .extract 1 (.t 24), [3], none⟩,
   ⟨(some 5), .mov (.t 28), [4, 2, 0, 1, 2, 3, 4], none⟩,
   ⟨(some 6), .mov (.t 29), [5, 6, 0, 1, 2, 3, 4, 5, 6], none⟩] [] [4, 22, 25, 26, 27, 24, 28, 29])
 (.seq (.region [⟨(some 7), .mov (.c (.int .i64 0)), [], none⟩] [] [])
 (.seq (.region [⟨(some 8), .mov (.c (.int .i64 0)), [], none⟩] [] [])
 (.seq (.seq (.region [⟨(some 30), .mov (.t 0), [], none⟩,
   ⟨(some 31), .len 1 (.t 30), [0], none⟩,
   ⟨(some 32), .mov (.t 1), [], none⟩,
   ⟨(some 33), .len 1 (.t 32), [2], none⟩,
   ⟨(some 34), .bin .neq (.t 31) (.t 33), [1, 3], none⟩] [] [30, 31, 32, 33])
 (.cond (.t 34)
  (.region [⟨(some 7), .mov (.c (.int .i64 4)), [], none⟩] [] [34])
  .skip))
 (.seq (.seq (.region [⟨(some 9), .mov (.c (.int .i64 0)), [], none⟩] [] [34])
 (.block 0 (.loop (.seq (.seq (.region [⟨(some 35), .mov (.t 9), [], none⟩,
   ⟨(some 36), .mov (.t 0), [], none⟩,
   ⟨(some 37), .len 1 (.t 36), [1], none⟩,
   ⟨(some 38), .bin .lss (.t 35) (.t 37), [0, 2], none⟩,
   ⟨(some 39), .mov (.t 38), [3], none⟩,
   ⟨(some 40), .mov (.t 7), [4], (some (39, true))⟩,
   ⟨(some 41), .bin .eql (.t 40) (.c (.int .i64 0)), [5, 4], (some (39, true))⟩,
   ⟨(some 42), .pick (.t 39) (.t 41) (.c (.bool false)), [4, 6], none⟩] [] [35, 36, 37, 38, 39])
 (.cond (.t 42)
  .skip
  (.exit 0)))
 (.seq (.block 1 (.seq (.region [⟨(some 45), .mov (.t 0), [], none⟩,
   ⟨(some 46), .mov (.t 9), [], none⟩,
   ⟨(some 47), .iaddr none 1 (.t 45) (.t 46), [0, 1], none⟩,
   ⟨(some 48), .load none (.t 47), [2], none⟩,
   ⟨(some 49), .call .pure (.f 32) [(.t 48)], [3], none⟩,
   ⟨(some 50), .un .not (.t 49), [4], none⟩] [] [42, 45, 46, 47, 48, 49])
 (.cond (.t 50)
  (.region [⟨(some 7), .mov (.c (.int .i64 2)), [], none⟩] [] [50])
  .skip)))
 (.region [⟨(some 43), .mov (.t 9), [], none⟩,
   ⟨(some 44), .bin .add (.t 43) (.c (.int .i64 1)), [0], none⟩,
   ⟨(some 9), .mov (.t 44), [1, 0, 1], none⟩] [] [50, 43, 44]))))))
 (.seq (.seq (.region [⟨(some 10), .mov (.c (.int .i64 0)), [], none⟩] [] [9, 41, 40])
 (.block 2 (.loop (.seq (.seq (.region [⟨(some 51), .mov (.t 10), [], none⟩,
   ⟨(some 52), .mov (.t 1), [], none⟩,
   ⟨(some 53), .len 1 (.t 52), [1], none⟩,
   ⟨(some 54), .bin .lss (.t 51) (.t 53), [0, 2], none⟩,
   ⟨(some 55), .mov (.t 54), [3], none⟩,
   ⟨(some 56), .mov (.t 7), [4], (some (55, true))⟩,
   ⟨(some 57), .bin .eql (.t 56) (.c (.int .i64 0)), [5, 4], (some (55, true))⟩,
   ⟨(some 58), .pick (.t 55) (.t 57) (.c (.bool false)), [4, 6], none⟩] [] [51, 52, 53, 54, 55])
 (.cond (.t 58)
  .skip
  (.exit 2)))
 (.seq (.block 3 (.seq (.seq (.region [⟨(some 61), .mov (.t 1), [], none⟩,
   ⟨(some 62), .mov (.t 10), [], none⟩,
   ⟨(some 63), .iaddr none 1 (.t 61) (.t 62), [0, 1], none⟩,
   ⟨(some 64), .load none (.t 63), [2], none⟩,
   ⟨(some 65), .call .pure (.f 32) [(.t 64)], [3], none⟩,
   ⟨(some 66), .un .not (.t 65), [4], none⟩] [] [58, 61, 62, 63, 64, 65])
 (.cond (.t 66)
  (.region [⟨(some 7), .mov (.c (.int .i64 2)), [], none⟩] [] [66])
  .skip))
 (.region [⟨(some 67), .mov (.t 8), [], none⟩,
   ⟨(some 68), .mov (.t 0), [], none⟩,
   ⟨(some 69), .mov (.t 10), [], none⟩,
   ⟨(some 70), .iaddr none 1 (.t 68) (.t 69), [1, 2], none⟩,
   ⟨(some 71), .load none (.t 70), [3], none⟩,
   ⟨(some 72), .mov (.t 1), [], none⟩,
   ⟨(some 73), .mov (.t 10), [], none⟩,
   ⟨(some 74), .iaddr none 1 (.t 72) (.t 73), [5, 6], none⟩,
   ⟨(some 75), .load none (.t 74), [7], none⟩,
   ⟨(some 76), .bin .mul (.t 71) (.t 75), [4, 8], none⟩,
   ⟨(some 77), .bin .add (.t 67) (.t 76), [0, 9], none⟩,
   ⟨(some 8), .mov (.t 77), [10, 0, 1, 2, 3, 4, 5, 6, 7, 8, 9, 10], none⟩] [] [66, 67, 68, 69, 70, 71, 72, 73, 74, 75, 76, 77])))
 (.region [⟨(some 59), .mov (.t 10), [], none⟩,
   ⟨(some 60), .bin .add (.t 59) (.c (.int .i64 1)), [0], none⟩,
   ⟨(some 10), .mov (.t 60), [1, 0, 1], none⟩] [] [59, 60]))))))
 (.seq (.seq (.region [⟨(some 78), .mov (.t 7), [], none⟩,
   ⟨(some 79), .bin .eql (.t 78) (.c (.int .i64 0)), [0], none⟩,
   ⟨(some 80), .mov (.t 79), [1], none⟩,
   ⟨(some 81), .mov (.t 0), [2], (some (80, true))⟩,
   ⟨(some 82), .len 1 (.t 81), [3, 2], (some (80, true))⟩,
   ⟨(some 83), .bin .gtr (.t 82) (.c (.int .i64 10)), [4, 2], (some (80, true))⟩,
   ⟨(some 84), .pick (.t 80) (.t 83) (.c (.bool false)), [2, 5], none⟩] [] [0, 1, 83, 82, 81, 57, 56, 10, 78, 79, 80])
 (.cond (.t 84)
  (.region [⟨(some 7), .mov (.c (.int .i64 3)), [], none⟩] [] [84])
  .skip))
 (.seq (.seq (.region [⟨(some 85), .mov (.t 7), [], none⟩,
   ⟨(some 86), .bin .neq (.t 85) (.c (.int .i64 0)), [0], none⟩] [] [84, 85])
 (.cond (.t 86)
  (.seq (.region [⟨(some 87), .mov (.t 5), [], none⟩,
    ⟨(some 88), .bin .eql (.t 87) (.c (.int .i64 0)), [0], none⟩,
    ⟨(some 89), .mov (.t 88), [1], none⟩,
    ⟨(some 90), .mov (.t 6), [2], (some (89, true))⟩,
    ⟨(some 91), .mov (.t 7), [2], (some (89, true))⟩,
    ⟨(some 92), .bin .eql (.t 90) (.t 91), [3, 4, 2], (some (89, true))⟩,
    ⟨(some 93), .pick (.t 89) (.t 92) (.c (.bool false)), [2, 5], none⟩,
    ⟨(some 4), .mov (.t 93), [6, 2, 0, 1, 2, 3, 4, 5, 6], none⟩] [] [5, 6, 7, 8, 92, 90, 91, 99, 98, 86, 87, 88, 89, 93])
  .ret)
  .skip))
 (.seq (.region [⟨(some 94), .mov (.t 5), [], none⟩,
   ⟨(some 95), .mov (.t 8), [], none⟩,
   ⟨(some 96), .bin .eql (.t 94) (.t 95), [0, 1], none⟩,
   ⟨(some 97), .mov (.t 96), [2], none⟩,
   ⟨(some 98), .mov (.t 6), [3], (some (97, true))⟩,
   ⟨(some 99), .bin .eql (.t 98) (.c (.int .i64 0)), [4, 3], (some (97, true))⟩,
   ⟨(some 100), .pick (.t 97) (.t 99) (.c (.bool false)), [3, 5], none⟩,
   ⟨(some 4), .mov (.t 100), [6, 3, 0, 1, 2, 3, 4, 5, 6], none⟩] [] [5, 6, 7, 8, 92, 90, 91, 99, 98, 86, 94, 95, 96, 97, 100])
 .ret)))))))))))⟩

-- overseer/invariant.Value
def s31 : SFn := ⟨32, [.tmp 4, .tmp 5],
 (.seq (.region [⟨(some 4), .mov (.c (.int .i64 0)), [], none⟩,
   ⟨(some 5), .mov (.c (.int .i64 0)), [0], none⟩] [] [4, 5])
 (.seq (.seq (.region [⟨(some 9), .mov (.t 0), [], none⟩,
   ⟨(some 10), .len 1 (.t 9), [0], none⟩,
   ⟨(some 11), .mov (.t 1), [], none⟩,
   ⟨(some 12), .len 1 (.t 11), [2], none⟩,
   ⟨(some 13), .bin .neq (.t 10) (.t 12), [1, 3], none⟩] [] [9, 10, 11, 12])
 (.cond (.t 13)
  (.seq (.region [⟨(some 4), .mov (.c (.int .i64 0)), [], none⟩,
    ⟨(some 5), .mov (.c (.int .i64 4)), [0, 0], none⟩] [] [0, 1, 13])
  .ret)
  .skip))
 (.seq (.seq (.region [⟨(some 14), .mov (.t 0), [], none⟩,
   ⟨(some 15), .mov (.t 1), [], none⟩,
   ⟨(some 16), .build [.nilsl, .nilsl] [(0, 1, (.t 14)), (1, 1, (.t 15))], [0, 1], none⟩,
   ⟨(some 17), .mov (.c (.int .i64 0)), [], none⟩] [] [4, 5, 13, 14, 15])
 (.block 0 (.loop (.seq (.region [⟨(some 18), .bin .lss (.t 17) (.c (.int .i64 2)), [], none⟩] [] [])
 (.seq (.cond (.t 18)
  .skip
  (.exit 0))
 (.seq (.block 1 (.seq (.region [⟨(some 19), .index (some (2, 1, false)) (.t 16) (.t 17), [], none⟩,
   ⟨(some 7), .mov (.t 19), [0, 0], none⟩] [] [18, 19])
 (.seq (.region [⟨(some 20), .mov (.t 7), [], none⟩,
   ⟨(some 21), .call .pure (.f 50) [(.t 20)], [0], none⟩,
   ⟨(some 8), .mov (.t 21), [1, 1, 0, 1], none⟩] [] [7, 20, 21])
 (.seq (.region [⟨(some 22), .mov (.t 8), [], none⟩,
   ⟨(some 23), .bin .neq (.t 22) (.c (.int .i64 0)), [0], none⟩] [] [22])
 (.cond (.t 23)
  (.seq (.region [⟨(some 24), .mov (.t 8), [], none⟩,
    ⟨(some 4), .mov (.c (.int .i64 0)), [], none⟩,
    ⟨(some 5), .mov (.t 24), [0, 1, 0, 1], none⟩] [] [0, 1, 16, 17, 8, 23, 24])
  .ret)
  .skip)))))
 (.region [⟨(some 25), .bin .add (.t 17) (.c (.int .i64 1)), [], none⟩,
   ⟨(some 17), .mov (.t 25), [0], none⟩] [] [4, 5, 8, 23, 25])))))))
 (.seq (.seq (.region [⟨(some 26), .mov (.t 0), [], none⟩,
   ⟨(some 27), .len 1 (.t 26), [0], none⟩,
   ⟨(some 28), .bin .gtr (.t 27) (.c (.int .i64 10)), [1], none⟩] [] [16, 17, 26, 27])
 (.cond (.t 28)
  (.seq (.region [⟨(some 4), .mov (.c (.int .i64 0)), [], none⟩,
    ⟨(some 5), .mov (.c (.int .i64 3)), [0, 0], none⟩] [] [0, 1, 28])
  .ret)
  .skip))
 (.seq (.region [⟨(some 29), .mov (.t 0), [], none⟩,
   ⟨(some 30), .mov (.t 1), [], none⟩,
   ⟨(some 31), .call .pure (.f 46) [(.t 29), (.t 30)], [0, 1], none⟩,
   ⟨(some 4), .mov (.t 31), [2, 2, 0, 1, 2], none⟩,
   ⟨(some 5), .mov (.c (.int .i64 0)), [3, 0, 1, 2, 3], none⟩] [] [0, 1, 28, 29, 30, 31])
 .ret)))))⟩

-- overseer/overseerlaw48.small
def s32 : SFn := ⟨9, [.tmp 2],
 (.seq (.region [⟨(some 2), .mov (.c (.bool false)), [], none⟩] [] [2])
 (.seq (.region [⟨(some 3), .mov (.t 0), [], none⟩,
   ⟨(some 4), .bin .geq (.t 3) (.c (.int .i64 0)), [0], none⟩,
   ⟨(some 5), .mov (.t 4), [1], none⟩,
   ⟨(some 6), .mov (.t 0), [2], (some (5, true))⟩,
   ⟨(some 7), .bin .leq (.t 6) (.c (.int .i64 65536)), [3, 2], (some (5, true))⟩,
   ⟨(some 8), .pick (.t 5) (.t 7) (.c (.bool false)), [2, 4], none⟩,
   ⟨(some 2), .mov (.t 8), [5, 2, 0, 1, 2, 3, 4, 5], none⟩] [] [0, 3, 4, 5, 6, 7, 8])
 .ret))⟩

-- overseer/invariant.value
def s46 : SFn := ⟨25, [.tmp 4],
 (.seq (.region [⟨(some 4), .mov (.c (.int .i64 0)), [], none⟩] [] [4])
 (.seq (.region [⟨(some 5), .mov (.c (.int .i64 0)), [], none⟩] [] [])
 (.seq (.seq (.region [⟨(some 8), .mov (.t 0), [], none⟩,
   ⟨(some 9), .len 1 (.t 8), [0], none⟩,
   ⟨(some 10), .mov (.c (.int .i64 0)), [], none⟩] [] [0])
 (.block 0 (.loop (.seq (.region [⟨(some 11), .bin .lss (.t 10) (.t 9), [], none⟩] [] [])
 (.seq (.cond (.t 11)
  .skip
  (.exit 0))
 (.seq (.block 1 (.seq (.region [⟨(some 12), .mov (.t 10), [], none⟩,
   ⟨(some 13), .iaddr none 1 (.t 8) (.t 10), [], none⟩,
   ⟨(some 14), .load none (.t 13), [1], none⟩,
   ⟨(some 6), .mov (.t 12), [0, 0, 1, 2], none⟩,
   ⟨(some 7), .mov (.t 14), [2, 3, 0, 1, 2, 3], none⟩] [] [11, 12, 13, 14])
 (.region [⟨(some 15), .mov (.t 5), [], none⟩,
   ⟨(some 16), .mov (.t 7), [], none⟩,
   ⟨(some 17), .mov (.t 1), [], none⟩,
   ⟨(some 18), .mov (.t 6), [], none⟩,
   ⟨(some 19), .iaddr none 1 (.t 17) (.t 18), [2, 3], none⟩,
   ⟨(some 20), .load none (.t 19), [4], none⟩,
   ⟨(some 21), .bin .mul (.t 16) (.t 20), [1, 5], none⟩,
   ⟨(some 22), .bin .add (.t 15) (.t 21), [0, 6], none⟩,
   ⟨(some 5), .mov (.t 22), [7, 0, 1, 2, 3, 4, 5, 6, 7], none⟩] [] [6, 7, 15, 16, 17, 18, 19, 20, 21, 22])))
 (.region [⟨(some 23), .bin .add (.t 10) (.c (.int .i64 1)), [], none⟩,
   ⟨(some 10), .mov (.t 23), [0], none⟩] [] [23])))))))
 (.seq (.region [⟨(some 24), .mov (.t 5), [], none⟩,
   ⟨(some 4), .mov (.t 24), [0, 0], none⟩] [] [1, 5, 8, 9, 10, 24])
 .ret))))⟩

-- overseer/invariant.within
def s50 : SFn := ⟨5, [.tmp 2],
 (.seq (.region [⟨(some 2), .mov (.c (.int .i64 0)), [], none⟩] [] [2])
 (.seq (.seq (.region [⟨(some 3), .mov (.t 0), [], none⟩,
   ⟨(some 4), .call .pure (.f 66) [(.t 3), (.f 67)], [0], none⟩] [] [0, 3])
 (.cond (.t 4)
  (.seq (.region [⟨(some 2), .mov (.c (.int .i64 2)), [], none⟩] [] [4])
  .ret)
  .skip))
 (.seq (.region [⟨(some 2), .mov (.c (.int .i64 0)), [], none⟩] [] [4])
 .ret)))⟩

-- slices.ContainsFunc[[]int,int]
def s66 : SFn := ⟨9, [.tmp 4],
 (.seq (.region [⟨(some 4), .mov (.c (.bool false)), [], none⟩] [] [4])
 (.seq (.region [⟨(some 5), .mov (.t 0), [], none⟩,
   ⟨(some 6), .mov (.t 1), [], none⟩,
   ⟨(some 7), .call .pure (.f 76) [(.t 5), (.t 6)], [0, 1], none⟩,
   ⟨(some 8), .bin .geq (.t 7) (.c (.int .i64 0)), [2], none⟩,
   ⟨(some 4), .mov (.t 8), [3, 2, 0, 1, 2, 3], none⟩] [] [0, 1, 5, 6, 7, 8])
 .ret))⟩

-- overseer/invariant.within$1
def s67 : SFn := ⟨9, [.tmp 2],
 (.seq (.region [⟨(some 2), .mov (.c (.bool false)), [], none⟩] [] [2])
 (.seq (.region [⟨(some 3), .mov (.t 0), [], none⟩,
   ⟨(some 4), .bin .lss (.t 3) (.c (.int .i64 0)), [0], none⟩,
   ⟨(some 5), .mov (.t 4), [1], none⟩,
   ⟨(some 6), .mov (.t 0), [2], (some (5, false))⟩,
   ⟨(some 7), .bin .gtr (.t 6) (.c (.int .i64 65536)), [3, 2], (some (5, false))⟩,
   ⟨(some 8), .pick (.t 5) (.c (.bool true)) (.t 7), [2, 4], none⟩,
   ⟨(some 2), .mov (.t 8), [5, 2, 0, 1, 2, 3, 4, 5], none⟩] [] [0, 3, 4, 5, 6, 7, 8])
 .ret))⟩

-- slices.IndexFunc[[]int,int]
def s76 : SFn := ⟨19, [.tmp 4],
 (.seq (.region [⟨(some 4), .mov (.c (.int .i64 0)), [], none⟩] [] [4])
 (.seq (.seq (.region [⟨(some 6), .mov (.t 0), [], none⟩,
   ⟨(some 7), .len 1 (.t 6), [0], none⟩,
   ⟨(some 8), .mov (.c (.int .i64 0)), [], none⟩] [] [6])
 (.block 0 (.loop (.seq (.region [⟨(some 9), .bin .lss (.t 8) (.t 7), [], none⟩] [] [])
 (.seq (.cond (.t 9)
  .skip
  (.exit 0))
 (.seq (.block 1 (.seq (.region [⟨(some 10), .mov (.t 8), [], none⟩,
   ⟨(some 5), .mov (.t 10), [0, 0], none⟩] [] [9, 10])
 (.seq (.region [⟨(some 11), .mov (.t 1), [], none⟩,
   ⟨(some 12), .mov (.t 0), [], none⟩,
   ⟨(some 13), .mov (.t 5), [], none⟩,
   ⟨(some 14), .iaddr none 1 (.t 12) (.t 13), [1, 2], none⟩,
   ⟨(some 15), .load none (.t 14), [3], none⟩,
   ⟨(some 16), .call .pure (.t 11) [(.t 15)], [0, 4], none⟩] [] [11, 12, 13, 14, 15])
 (.cond (.t 16)
  (.seq (.region [⟨(some 17), .mov (.t 5), [], none⟩,
    ⟨(some 4), .mov (.t 17), [0, 0], none⟩] [] [0, 1, 7, 8, 5, 16, 17])
  .ret)
  .skip))))
 (.region [⟨(some 18), .bin .add (.t 8) (.c (.int .i64 1)), [], none⟩,
   ⟨(some 8), .mov (.t 18), [0], none⟩] [] [4, 5, 16, 18])))))))
 (.seq (.region [⟨(some 4), .mov (.c (.int .i64 (-1))), [], none⟩] [] [0, 1, 7, 8])
 .ret)))⟩

def ft : FT := (.n 50 (.n 32 (.n 31 (.l 8 s8) (.l 31 s31)) (.n 46 (.l 32 s32) (.l 46 s46))) (.n 67 (.n 66 (.l 50 s50) (.l 66 s66)) (.n 76 (.l 67 s67) (.l 76 s76))))

theorem ok8 : okFn Try.prog 8 s8 = true := by kernel_rfl
theorem ok31 : okFn Try.prog 31 s31 = true := by kernel_rfl
theorem ok32 : okFn Try.prog 32 s32 = true := by kernel_rfl
theorem ok46 : okFn Try.prog 46 s46 = true := by kernel_rfl
theorem ok50 : okFn Try.prog 50 s50 = true := by kernel_rfl
theorem ok66 : okFn Try.prog 66 s66 = true := by kernel_rfl
theorem ok67 : okFn Try.prog 67 s67 = true := by kernel_rfl
theorem ok76 : okFn Try.prog 76 s76 = true := by kernel_rfl
theorem ft_ok : ft.OK Try.prog := ⟨⟨⟨ok8, ok31⟩, ⟨ok32, ok46⟩⟩, ⟨⟨ok50, ok66⟩, ⟨ok67, ok76⟩⟩⟩

end Go.AM.SV
