/- The slim code, for running, of functions of the given program; that it is theirs is checked. -/
import Derived.Test.YteaeobmbfhaklaaAmS
import Derived.Test.YteaeobmbfhaklaaProg
import Derived.KernelRfl
set_option maxRecDepth 100000
namespace Go.AM.FV
open Go.Proofs
-- overseer/overseerlaw48.known
def f12 : FFn := ⟨106, [.tmp 0],
 (.seq (.region [⟨true, ⟨(some 0), .mov (.c (.bool false)), [], none⟩⟩] [] 1)
 (.seq (.region [⟨true, ⟨(some 14), .call .heap (.f 38) [], [], none⟩⟩,
   ⟨true, ⟨(some 15), .call .heap (.f 14) [(.t 14), (.c (.int .i64 (.ofNat 1)))], [0, 0], none⟩⟩,
   ⟨true, ⟨(some 13), .mov (.t 15), [1], none⟩⟩,
   ⟨true, ⟨(some 16), .extract 0 (.t 13), [2], none⟩⟩,
   ⟨true, ⟨(some 17), .extract 1 (.t 13), [2], none⟩⟩,
   ⟨true, ⟨(some 1), .mov (.t 16), [3, 1, 0, 1, 2, 3], none⟩⟩,
   ⟨true, ⟨(some 2), .mov (.t 17), [4, 5, 0, 1, 2, 3, 4, 5], none⟩⟩] [] 253952)
 (.seq (.region [⟨true, ⟨(some 19), .call .heap (.f 38) [], [], none⟩⟩,
   ⟨true, ⟨(some 20), .bslice false .dyn 1 2 [(.int .i64 (.ofNat 0)), (.int .i64 (.ofNat 0))] [(0, 1, (.c (.int .i64 (.ofNat 1)))), (1, 1, (.c (.int .i64 (.ofNat 1))))], [], none⟩⟩,
   ⟨true, ⟨(some 21), .bslice false .dyn 1 1 [.nilsl] [(0, 1, (.t 20))], [1], none⟩⟩,
   ⟨true, ⟨(some 22), .call .heap (.f 23) [(.t 19), (.t 21)], [0, 2, 0], none⟩⟩,
   ⟨true, ⟨(some 18), .mov (.t 22), [3], none⟩⟩,
   ⟨true, ⟨(some 23), .extract 0 (.t 18), [4], none⟩⟩,
   ⟨true, ⟨(some 24), .extract 1 (.t 18), [4], none⟩⟩,
   ⟨true, ⟨(some 3), .mov (.t 23), [5, 3, 0, 1, 2, 3, 4, 5], none⟩⟩,
   ⟨true, ⟨(some 4), .mov (.t 24), [6, 7, 0, 1, 2, 3, 4, 5, 6, 7], none⟩⟩] [] 33292288)
 (.seq (.region [⟨true, ⟨(some 26), .call .heap (.f 38) [], [], none⟩⟩,
   ⟨true, ⟨(some 27), .bslice false .dyn 1 2 [(.int .i64 (.ofNat 0)), (.int .i64 (.ofNat 0))] [(0, 1, (.c (.int .i64 (.ofNat 1)))), (1, 1, (.c (.int .i64 (.ofNat 1))))], [], none⟩⟩,
   ⟨true, ⟨(some 28), .bslice false .dyn 1 1 [.nilsl] [(0, 1, (.t 27))], [1], none⟩⟩,
   ⟨true, ⟨(some 29), .bslice false .dyn 1 2 [(.int .i64 (.ofNat 0)), (.int .i64 (.ofNat 0))] [(0, 1, (.c (.int .i64 (.ofNat 1)))), (1, 1, (.c (.int .i64 (.ofNat 1))))], [], none⟩⟩,
   ⟨true, ⟨(some 30), .call .heap (.f 24) [(.t 26), (.t 28), (.t 29)], [0, 2, 3, 0], none⟩⟩,
   ⟨true, ⟨(some 25), .mov (.t 30), [4], none⟩⟩,
   ⟨true, ⟨(some 31), .extract 0 (.t 25), [5], none⟩⟩,
   ⟨true, ⟨(some 32), .extract 1 (.t 25), [5], none⟩⟩,
   ⟨true, ⟨(some 33), .extract 2 (.t 25), [5], none⟩⟩,
   ⟨true, ⟨(some 5), .mov (.t 31), [6, 4, 0, 1, 2, 3, 4, 5, 6], none⟩⟩,
   ⟨true, ⟨(some 6), .mov (.t 32), [7, 9, 0, 1, 2, 3, 4, 5, 6, 7, 9], none⟩⟩,
   ⟨true, ⟨(some 7), .mov (.t 33), [8, 10, 0, 1, 2, 3, 4, 5, 6, 7, 8, 9, 10], none⟩⟩] [] 17146314784)
 (.seq (.region [⟨true, ⟨(some 34), .bslice false .dyn 1 2 [(.int .i64 (.ofNat 0)), (.int .i64 (.ofNat 0))] [(0, 1, (.c (.int .i64 (.ofNat 4)))), (1, 1, (.c (.int .i64 (.ofNat 0))))], [], none⟩⟩,
   ⟨true, ⟨(some 35), .build [(.int .i64 (.ofNat 0)), (.int .i64 (.ofNat 0))] [(0, 1, (.c (.int .i64 (.ofNat 0)))), (1, 1, (.c (.int .i64 (.ofNat 2))))], [], none⟩⟩,
   ⟨true, ⟨(some 36), .bslice false .dyn 2 1 [(.int .i64 (.ofNat 0)), (.int .i64 (.ofNat 0))] [(0, 2, (.t 35))], [1], none⟩⟩,
   ⟨true, ⟨(some 37), .build [(.int .i64 (.ofNat 0)), (.int .i64 (.ofNat 0))] [(0, 1, (.c (.int .i64 (.ofNat 1)))), (1, 1, (.c (.int .i64 (.ofNat 3))))], [], none⟩⟩,
   ⟨true, ⟨(some 38), .bslice false .dyn 2 1 [(.int .i64 (.ofNat 0)), (.int .i64 (.ofNat 0))] [(0, 2, (.t 37))], [3], none⟩⟩,
   ⟨true, ⟨(some 39), .build [(.int .i64 (.ofNat 0)), .nilsl, .nilsl] [(1, 1, (.t 36)), (2, 1, (.t 38))], [2, 4], none⟩⟩,
   ⟨true, ⟨(some 40), .bslice false .dyn 3 1 [(.int .i64 (.ofNat 0)), .nilsl, .nilsl] [(0, 3, (.t 39))], [5], none⟩⟩,
   ⟨true, ⟨(some 41), .build [.nilsl, .nilsl] [(0, 1, (.t 34)), (1, 1, (.t 40))], [0, 6], none⟩⟩,
   ⟨true, ⟨(some 8), .alloc .dyn (.agg [.nilsl, .nilsl]), [], none⟩⟩,
   ⟨false, ⟨none, .store 2 (.t 8) (.t 41), [8, 7, 0, 1, 2, 3, 4, 5, 6, 7, 8], none⟩⟩] [] 4380866641920)
 (.seq (.region [⟨true, ⟨(some 43), .load (some 2) (.t 8), [], none⟩⟩,
   ⟨true, ⟨(some 44), .call .heap (.f 14) [(.t 43), (.c (.int .i64 (.ofNat 1)))], [0], none⟩⟩,
   ⟨true, ⟨(some 42), .mov (.t 44), [1], none⟩⟩,
   ⟨true, ⟨(some 45), .extract 0 (.t 42), [2], none⟩⟩,
   ⟨true, ⟨(some 46), .extract 1 (.t 42), [2], none⟩⟩,
   ⟨true, ⟨(some 9), .mov (.t 45), [3, 1, 0, 1, 2, 3], none⟩⟩,
   ⟨true, ⟨(some 10), .mov (.t 46), [4, 5, 0, 1, 2, 3, 4, 5], none⟩⟩] [] 136339441844224)
 (.seq (.region [⟨true, ⟨(some 48), .load (some 2) (.t 8), [], none⟩⟩,
   ⟨true, ⟨(some 49), .call .heap (.f 15) [(.t 48), (.c (.int .i64 (.ofNat 2)))], [0], none⟩⟩,
   ⟨true, ⟨(some 47), .mov (.t 49), [1], none⟩⟩,
   ⟨true, ⟨(some 50), .extract 0 (.t 47), [2], none⟩⟩,
   ⟨true, ⟨(some 51), .extract 1 (.t 47), [2], none⟩⟩,
   ⟨true, ⟨(some 11), .mov (.t 50), [3, 1, 0, 1, 2, 3], none⟩⟩,
   ⟨true, ⟨(some 12), .mov (.t 51), [4, 5, 0, 1, 2, 3, 4, 5], none⟩⟩] [] 4362862139015424)
 (.seq (.region [⟨true, ⟨(some 52), .mov (.t 2), [], none⟩⟩,
   ⟨true, ⟨(some 53), .bin .eql (.t 52) (.c (.int .i64 (.ofNat 0))), [0], none⟩⟩,
   ⟨true, ⟨(some 54), .mov (.t 53), [1], none⟩⟩,
   ⟨true, ⟨(some 55), .mov (.t 1), [2], (some (54, true))⟩⟩,
   ⟨true, ⟨(some 56), .len 1 (.t 55), [3, 2], (some (54, true))⟩⟩,
   ⟨true, ⟨(some 57), .bin .eql (.t 56) (.c (.int .i64 (.ofNat 1))), [4, 2], (some (54, true))⟩⟩,
   ⟨true, ⟨(some 58), .pick (.t 54) (.t 57) (.c (.bool false)), [2, 5], none⟩⟩,
   ⟨true, ⟨(some 59), .mov (.t 58), [6, 2], none⟩⟩,
   ⟨true, ⟨(some 60), .mov (.t 1), [7], (some (59, true))⟩⟩,
   ⟨true, ⟨(some 61), .iaddr none 1 (.t 60) (.c (.int .i64 (.ofNat 0))), [8, 7], (some (59, true))⟩⟩,
   ⟨true, ⟨(some 62), .load none (.t 61), [9, 7], (some (59, true))⟩⟩,
   ⟨true, ⟨(some 63), .bslice false .dyn 1 2 [(.int .i64 (.ofNat 0)), (.int .i64 (.ofNat 0))] [(0, 1, (.c (.int .i64 (.ofNat 1)))), (1, 1, (.c (.int .i64 (.ofNat 1))))], [7], (some (59, true))⟩⟩,
   ⟨true, ⟨(some 64), .call .heap (.f 29) [(.t 62), (.t 63)], [10, 11, 7, 7], (some (59, true))⟩⟩,
   ⟨true, ⟨(some 65), .pick (.t 59) (.t 64) (.c (.bool false)), [7, 12], none⟩⟩,
   ⟨true, ⟨(some 66), .mov (.t 65), [13, 12], none⟩⟩,
   ⟨true, ⟨(some 67), .mov (.t 4), [14], (some (66, true))⟩⟩,
   ⟨true, ⟨(some 68), .bin .eql (.t 67) (.c (.int .i64 (.ofNat 0))), [15, 14], (some (66, true))⟩⟩,
   ⟨true, ⟨(some 69), .pick (.t 66) (.t 68) (.c (.bool false)), [14, 16], none⟩⟩,
   ⟨true, ⟨(some 70), .mov (.t 69), [17, 14], none⟩⟩,
   ⟨true, ⟨(some 71), .mov (.t 3), [18], (some (70, true))⟩⟩,
   ⟨true, ⟨(some 72), .bslice false .dyn 1 2 [(.int .i64 (.ofNat 0)), (.int .i64 (.ofNat 0))] [(0, 1, (.c (.int .i64 (.ofNat 1)))), (1, 1, (.c (.int .i64 (.ofNat 1))))], [18], (some (70, true))⟩⟩,
   ⟨true, ⟨(some 73), .call .heap (.f 29) [(.t 71), (.t 72)], [19, 20, 18, 18], (some (70, true))⟩⟩,
   ⟨true, ⟨(some 74), .pick (.t 70) (.t 73) (.c (.bool false)), [18, 21], none⟩⟩,
   ⟨true, ⟨(some 75), .mov (.t 74), [22, 21], none⟩⟩,
   ⟨true, ⟨(some 76), .mov (.t 7), [23], (some (75, true))⟩⟩,
   ⟨true, ⟨(some 77), .bin .eql (.t 76) (.c (.int .i64 (.ofNat 0))), [24, 23], (some (75, true))⟩⟩,
   ⟨true, ⟨(some 78), .pick (.t 75) (.t 77) (.c (.bool false)), [23, 25], none⟩⟩,
   ⟨true, ⟨(some 79), .mov (.t 78), [26, 23], none⟩⟩,
   ⟨true, ⟨(some 80), .mov (.t 6), [27], (some (79, true))⟩⟩,
   ⟨true, ⟨(some 81), .pick (.t 79) (.t 80) (.c (.bool false)), [27, 28], none⟩⟩,
   ⟨true, ⟨(some 82), .mov (.t 81), [29, 27], none⟩⟩,
   ⟨true, ⟨(some 83), .mov (.t 10), [30], (some (82, true))⟩⟩,
   ⟨true, ⟨(some 84), .bin .eql (.t 83) (.c (.int .i64 (.ofNat 0))), [31, 30], (some (82, true))⟩⟩,
   ⟨true, ⟨(some 85), .pick (.t 82) (.t 84) (.c (.bool false)), [30, 32], none⟩⟩,
   ⟨true, ⟨(some 86), .mov (.t 85), [33, 30], none⟩⟩,
   ⟨true, ⟨(some 87), .mov (.t 9), [34], (some (86, true))⟩⟩,
   ⟨true, ⟨(some 88), .len 1 (.t 87), [35, 34], (some (86, true))⟩⟩,
   ⟨true, ⟨(some 89), .bin .eql (.t 88) (.c (.int .i64 (.ofNat 1))), [36, 34], (some (86, true))⟩⟩,
   ⟨true, ⟨(some 90), .pick (.t 86) (.t 89) (.c (.bool false)), [34, 37], none⟩⟩,
   ⟨true, ⟨(some 91), .mov (.t 90), [38, 34], none⟩⟩,
   ⟨true, ⟨(some 92), .mov (.t 9), [39], (some (91, true))⟩⟩,
   ⟨true, ⟨(some 93), .iaddr none 1 (.t 92) (.c (.int .i64 (.ofNat 0))), [40, 39], (some (91, true))⟩⟩,
   ⟨true, ⟨(some 94), .load none (.t 93), [41, 39], (some (91, true))⟩⟩,
   ⟨true, ⟨(some 95), .bslice false .dyn 1 2 [(.int .i64 (.ofNat 0)), (.int .i64 (.ofNat 0))] [(0, 1, (.c (.int .i64 (.ofNat 3)))), (1, 1, (.c (.int .i64 (.ofNat 2))))], [39], (some (91, true))⟩⟩,
   ⟨true, ⟨(some 96), .call .heap (.f 29) [(.t 94), (.t 95)], [42, 43, 39, 39], (some (91, true))⟩⟩,
   ⟨true, ⟨(some 97), .pick (.t 91) (.t 96) (.c (.bool false)), [39, 44], none⟩⟩,
   ⟨true, ⟨(some 98), .mov (.t 97), [45, 44], none⟩⟩,
   ⟨true, ⟨(some 99), .mov (.t 12), [46], (some (98, true))⟩⟩,
   ⟨true, ⟨(some 100), .bin .eql (.t 99) (.c (.int .i64 (.ofNat 0))), [47, 46], (some (98, true))⟩⟩,
   ⟨true, ⟨(some 101), .pick (.t 98) (.t 100) (.c (.bool false)), [46, 48], none⟩⟩,
   ⟨true, ⟨(some 102), .mov (.t 101), [49, 46], none⟩⟩,
   ⟨true, ⟨(some 103), .mov (.t 11), [50], (some (102, true))⟩⟩,
   ⟨true, ⟨(some 104), .un .not (.t 103), [51, 50], (some (102, true))⟩⟩,
   ⟨true, ⟨(some 105), .pick (.t 102) (.t 104) (.c (.bool false)), [50, 52], none⟩⟩,
   ⟨true, ⟨(some 0), .mov (.t 105), [53, 50, 0, 1, 2, 3, 4, 5, 6, 7, 8, 9, 10, 11, 12, 13, 14, 15, 16, 17, 18, 19, 20, 21, 22, 23, 24, 25, 26, 27, 28, 29, 30, 31, 32, 33, 34, 35, 36, 37, 38, 39, 40, 41, 42, 43, 44, 45, 46, 47, 48, 49, 50, 51, 52, 53], none⟩⟩] [] 81129638414606677192189377781470)
 .ret))))))))⟩

-- overseer/invariant.Minimal
def f14 : FFn := ⟨21, [.tmp 4, .tmp 5],
 (.seq (.region [⟨true, ⟨(some 2), .box .dyn (.t 0), [], none⟩⟩,
   ⟨true, ⟨(some 4), .mov (.c .nilsl), [], none⟩⟩,
   ⟨true, ⟨(some 5), .mov (.c (.int .i64 (.ofNat 0))), [1], none⟩⟩] [] 49)
 (.seq (.region [⟨true, ⟨(some 9), .load (some 2) (.t 2), [], none⟩⟩,
   ⟨true, ⟨(some 10), .mov (.t 1), [], none⟩⟩,
   ⟨true, ⟨(some 11), .call .heap (.f 39) [(.t 9), (.t 10)], [0, 1], none⟩⟩,
   ⟨true, ⟨(some 8), .mov (.t 11), [2], none⟩⟩,
   ⟨true, ⟨(some 12), .extract 0 (.t 8), [3], none⟩⟩,
   ⟨true, ⟨(some 13), .extract 1 (.t 8), [3], none⟩⟩,
   ⟨true, ⟨(some 6), .alloc .dyn (.agg [(.int .i64 (.ofNat 0)), .nilsl]), [], none⟩⟩,
   ⟨false, ⟨none, .store 2 (.t 6) (.t 12), [6, 4, 2, 0, 1, 2, 3, 4, 6], none⟩⟩,
   ⟨true, ⟨(some 7), .mov (.t 13), [5, 7, 0, 1, 2, 3, 4, 5, 6, 7], none⟩⟩] [] 16134)
 (.seq (.seq (.region [⟨true, ⟨(some 14), .mov (.t 7), [], none⟩⟩,
   ⟨true, ⟨(some 15), .bin .neq (.t 14) (.c (.int .i64 (.ofNat 0))), [0], none⟩⟩] [] 16384)
 (.cond (.t 15)
  (.seq (.region [⟨true, ⟨(some 16), .mov (.t 7), [], none⟩⟩,
    ⟨true, ⟨(some 4), .mov (.c .nilsl), [], none⟩⟩,
    ⟨true, ⟨(some 5), .mov (.t 16), [0, 1, 0, 1], none⟩⟩] [] 98496)
  .ret)
  .skip))
 (.seq (.region [⟨true, ⟨(some 17), .load (some 2) (.t 6), [], none⟩⟩,
   ⟨true, ⟨(some 18), .call .heap (.f 40) [(.t 17)], [0], none⟩⟩,
   ⟨true, ⟨(some 19), .extract 0 (.t 18), [1], none⟩⟩,
   ⟨true, ⟨(some 20), .extract 1 (.t 18), [1], none⟩⟩,
   ⟨false, ⟨(some 4), .mov (.t 19), [2, 1, 0, 1, 2, 3], none⟩⟩,
   ⟨false, ⟨(some 5), .mov (.t 20), [3, 4, 0, 1, 2, 3, 4], none⟩⟩] [] 1999040)
 .ret))))⟩

-- overseer/invariant.Covered
def f15 : FFn := ⟨38, [.tmp 4, .tmp 5],
 (.seq (.region [⟨true, ⟨(some 2), .box .dyn (.t 0), [], none⟩⟩,
   ⟨true, ⟨(some 4), .mov (.c (.bool false)), [], none⟩⟩,
   ⟨true, ⟨(some 5), .mov (.c (.int .i64 (.ofNat 0))), [1], none⟩⟩] [] 49)
 (.seq (.region [⟨true, ⟨(some 12), .load (some 2) (.t 2), [], none⟩⟩,
   ⟨true, ⟨(some 13), .mov (.t 1), [], none⟩⟩,
   ⟨true, ⟨(some 14), .call .heap (.f 39) [(.t 12), (.t 13)], [0, 1], none⟩⟩,
   ⟨true, ⟨(some 11), .mov (.t 14), [2], none⟩⟩,
   ⟨true, ⟨(some 15), .extract 0 (.t 11), [3], none⟩⟩,
   ⟨true, ⟨(some 16), .extract 1 (.t 11), [3], none⟩⟩,
   ⟨true, ⟨(some 6), .alloc .dyn (.agg [(.int .i64 (.ofNat 0)), .nilsl]), [], none⟩⟩,
   ⟨false, ⟨none, .store 2 (.t 6) (.t 15), [6, 4, 2, 0, 1, 2, 3, 4, 6], none⟩⟩,
   ⟨true, ⟨(some 7), .mov (.t 16), [5, 7, 0, 1, 2, 3, 4, 5, 6, 7], none⟩⟩] [] 129030)
 (.seq (.seq (.region [⟨true, ⟨(some 17), .mov (.t 7), [], none⟩⟩,
   ⟨true, ⟨(some 18), .bin .neq (.t 17) (.c (.int .i64 (.ofNat 0))), [0], none⟩⟩] [] 131072)
 (.cond (.t 18)
  (.seq (.region [⟨true, ⟨(some 19), .mov (.t 7), [], none⟩⟩,
    ⟨true, ⟨(some 4), .mov (.c (.bool false)), [], none⟩⟩,
    ⟨true, ⟨(some 5), .mov (.t 19), [0, 1, 0, 1], none⟩⟩] [] 786624)
  .ret)
  .skip))
 (.seq (.region [⟨true, ⟨(some 8), .mov (.c (.int .u16 (.ofNat 0))), [], none⟩⟩] [] 262320)
 (.seq (.seq (.region [⟨true, ⟨(some 20), .load (some 2) (.t 6), [], none⟩⟩,
   ⟨true, ⟨(some 21), .call .heap (.f 41) [(.t 20)], [0], none⟩⟩,
   ⟨true, ⟨(some 22), .len 1 (.t 21), [1], none⟩⟩,
   ⟨true, ⟨(some 23), .mov (.c (.int .i64 (.ofNat 0))), [], none⟩⟩] [] 1048576)
 (.block 0 (.loop (.seq (.region [⟨true, ⟨(some 24), .bin .lss (.t 23) (.t 22), [], none⟩⟩] [] 0)
 (.seq (.cond (.t 24)
  .skip
  (.exit 0))
 (.seq (.block 1 (.seq (.region [⟨true, ⟨(some 25), .iaddr none 11 (.t 21) (.t 23), [], none⟩⟩,
   ⟨true, ⟨(some 26), .load (some 11) (.t 25), [0], none⟩⟩,
   ⟨true, ⟨(some 10), .alloc .dyn (.agg [(.int .u16 (.ofNat 0)), (.int .i64 (.ofNat 0)), (.int .i64 (.ofNat 0)), (.int .i64 (.ofNat 0)), (.int .i64 (.ofNat 0)), (.int .i64 (.ofNat 0)), (.int .i64 (.ofNat 0)), (.int .i64 (.ofNat 0)), (.int .i64 (.ofNat 0)), (.int .i64 (.ofNat 0)), (.int .i64 (.ofNat 0))]), [], none⟩⟩,
   ⟨false, ⟨none, .store 11 (.t 10) (.t 26), [2, 1, 0, 1, 2], none⟩⟩] [] 117440512)
 (.region [⟨true, ⟨(some 27), .mov (.t 8), [], none⟩⟩,
   ⟨true, ⟨(some 28), .faddr 0 (.t 10), [], none⟩⟩,
   ⟨true, ⟨(some 29), .load none (.t 28), [1], none⟩⟩,
   ⟨true, ⟨(some 30), .bin .or (.t 27) (.t 29), [0, 2], none⟩⟩,
   ⟨false, ⟨(some 8), .mov (.t 30), [3, 0, 1, 2, 3], none⟩⟩] [] 2013266944)))
 (.region [⟨true, ⟨(some 31), .bin .add (.t 23) (.c (.int .i64 (.ofNat 1))), [], none⟩⟩,
   ⟨false, ⟨(some 23), .mov (.t 31), [0], none⟩⟩] [] 2147483648)))))))
 (.seq (.region [⟨true, ⟨(some 32), .mov (.t 8), [], none⟩⟩,
   ⟨true, ⟨(some 33), .faddr 0 (.t 6), [], none⟩⟩,
   ⟨true, ⟨(some 34), .load none (.t 33), [1], none⟩⟩,
   ⟨true, ⟨(some 35), .bin .shl (.c (.int .u16 (.ofNat 1))) (.t 34), [2], none⟩⟩,
   ⟨true, ⟨(some 36), .bin .sub (.t 35) (.c (.int .u16 (.ofNat 1))), [3], none⟩⟩,
   ⟨true, ⟨(some 37), .bin .eql (.t 32) (.t 36), [0, 4], none⟩⟩,
   ⟨true, ⟨(some 4), .mov (.t 37), [5, 0, 1, 2, 3, 4, 5], none⟩⟩,
   ⟨true, ⟨(some 5), .mov (.c (.int .i64 (.ofNat 0))), [6, 0, 1, 2, 3, 4, 5, 6], none⟩⟩] [] 270597620032)
 .ret))))))⟩

-- overseer/invariant.Bounds
def f23 : FFn := ⟨70, [.tmp 4, .tmp 5],
 (.seq (.region [⟨true, ⟨(some 2), .box .dyn (.t 0), [], none⟩⟩,
   ⟨true, ⟨(some 4), .mov (.c .nilsl), [], none⟩⟩,
   ⟨true, ⟨(some 5), .mov (.c (.int .i64 (.ofNat 0))), [1], none⟩⟩] [] 49)
 (.seq (.seq (.region [⟨true, ⟨(some 12), .load (some 2) (.t 2), [], none⟩⟩,
   ⟨true, ⟨(some 13), .mov (.t 1), [], none⟩⟩,
   ⟨true, ⟨(some 14), .call .heap (.f 45) [(.t 12), (.t 13)], [0, 1], none⟩⟩,
   ⟨true, ⟨(some 6), .mov (.t 14), [2, 2, 0, 1, 2], none⟩⟩] [] 28672)
 (.seq (.region [⟨true, ⟨(some 15), .mov (.t 6), [], none⟩⟩,
   ⟨true, ⟨(some 16), .bin .neq (.t 15) (.c (.int .i64 (.ofNat 0))), [0], none⟩⟩] [] 32768)
 (.cond (.t 16)
  (.seq (.region [⟨true, ⟨(some 17), .mov (.t 6), [], none⟩⟩,
    ⟨true, ⟨(some 4), .mov (.c .nilsl), [], none⟩⟩,
    ⟨true, ⟨(some 5), .mov (.t 17), [0, 1, 0, 1], none⟩⟩] [] 196678)
  .ret)
  .skip)))
 (.seq (.region [⟨true, ⟨(some 18), .faddr 0 (.t 2), [], none⟩⟩,
   ⟨true, ⟨(some 19), .load none (.t 18), [0], none⟩⟩,
   ⟨true, ⟨(some 20), .len 1 (.t 19), [1], none⟩⟩,
   ⟨true, ⟨(some 21), .mkslice .dyn 1 8 [(.int .i64 (.ofNat 0))] (.t 20) (.t 20), [2, 2], none⟩⟩,
   ⟨true, ⟨(some 7), .mov (.t 21), [3, 0, 1, 2, 3], none⟩⟩] [] 3997808)
 (.seq (.seq (.region [⟨true, ⟨(some 22), .mov (.t 7), [], none⟩⟩,
   ⟨true, ⟨(some 23), .len 1 (.t 22), [0], none⟩⟩,
   ⟨true, ⟨(some 24), .mov (.c (.int .i64 (.ofNat 0))), [], none⟩⟩] [] 4194304)
 (.block 0 (.loop (.seq (.region [⟨true, ⟨(some 25), .bin .lss (.t 24) (.t 23), [], none⟩⟩] [] 0)
 (.seq (.cond (.t 25)
  .skip
  (.exit 0))
 (.seq (.block 1 (.seq (.region [⟨true, ⟨(some 26), .mov (.t 24), [], none⟩⟩,
   ⟨true, ⟨(some 8), .mov (.t 26), [0, 0], none⟩⟩] [] 100663296)
 (.seq (.region [⟨true, ⟨(some 27), .mov (.t 7), [], none⟩⟩,
   ⟨true, ⟨(some 28), .mov (.t 8), [], none⟩⟩,
   ⟨true, ⟨(some 29), .iaddr none 1 (.t 27) (.t 28), [0, 1, 0, 1], none⟩⟩,
   ⟨false, ⟨none, .store 1 (.t 29) (.c (.int .i64 (.negSucc 0))), [2, 0, 1], none⟩⟩] [] 939524096)
 (.seq (.region [⟨true, ⟨(some 30), .mov (.t 1), [], none⟩⟩,
   ⟨true, ⟨(some 31), .len 1 (.t 30), [0], none⟩⟩,
   ⟨true, ⟨(some 32), .mov (.c (.int .i64 (.ofNat 0))), [], none⟩⟩] [] 0)
 (.block 2 (.loop (.seq (.region [⟨true, ⟨(some 33), .bin .lss (.t 32) (.t 31), [], none⟩⟩] [] 0)
 (.seq (.cond (.t 33)
  .skip
  (.exit 2))
 (.seq (.block 3 (.seq (.region [⟨true, ⟨(some 34), .iaddr none 1 (.t 30) (.t 32), [], none⟩⟩,
   ⟨true, ⟨(some 35), .load none (.t 34), [0], none⟩⟩,
   ⟨true, ⟨(some 10), .mov (.t 35), [1, 0, 1], none⟩⟩] [] 60129542144)
 (.seq (.seq (.region [⟨true, ⟨(some 36), .mov (.t 10), [], none⟩⟩,
   ⟨true, ⟨(some 37), .mov (.t 8), [], none⟩⟩,
   ⟨true, ⟨(some 38), .iaddr none 1 (.t 36) (.t 37), [0, 1], none⟩⟩,
   ⟨true, ⟨(some 39), .load none (.t 38), [2], none⟩⟩,
   ⟨true, ⟨(some 40), .bin .eql (.t 39) (.c (.int .i64 (.ofNat 0))), [3], none⟩⟩] [] 1030792151040)
 (.cond (.t 40)
  (.exit 3)
  .skip))
 (.seq (.region [⟨true, ⟨(some 41), .mov (.t 10), [], none⟩⟩,
   ⟨true, ⟨(some 42), .faddr 0 (.t 2), [], none⟩⟩,
   ⟨true, ⟨(some 43), .load none (.t 42), [1], none⟩⟩,
   ⟨true, ⟨(some 44), .call .borrow (.f 46) [(.t 41), (.t 43)], [0, 2], none⟩⟩,
   ⟨true, ⟨(some 45), .mov (.t 10), [], none⟩⟩,
   ⟨true, ⟨(some 46), .mov (.t 8), [], none⟩⟩,
   ⟨true, ⟨(some 47), .iaddr none 1 (.t 45) (.t 46), [4, 5], none⟩⟩,
   ⟨true, ⟨(some 48), .load none (.t 47), [6], none⟩⟩,
   ⟨true, ⟨(some 49), .bin .quo (.t 44) (.t 48), [3, 7], none⟩⟩,
   ⟨true, ⟨(some 11), .mov (.t 49), [8, 3, 0, 1, 2, 3, 4, 5, 6, 7, 8], none⟩⟩] [] 1124800395215872)
 (.seq (.region [⟨true, ⟨(some 50), .mov (.t 7), [], none⟩⟩,
   ⟨true, ⟨(some 51), .mov (.t 8), [], none⟩⟩,
   ⟨true, ⟨(some 52), .iaddr none 1 (.t 50) (.t 51), [0, 1], none⟩⟩,
   ⟨true, ⟨(some 53), .load none (.t 52), [2], none⟩⟩,
   ⟨true, ⟨(some 54), .bin .lss (.t 53) (.c (.int .i64 (.ofNat 0))), [3], none⟩⟩,
   ⟨true, ⟨(some 55), .mov (.t 54), [4], none⟩⟩,
   ⟨false, ⟨(some 56), .mov (.t 11), [5], (some (55, false))⟩⟩,
   ⟨false, ⟨(some 57), .mov (.t 7), [5], (some (55, false))⟩⟩,
   ⟨false, ⟨(some 58), .mov (.t 8), [5], (some (55, false))⟩⟩,
   ⟨false, ⟨(some 59), .iaddr none 1 (.t 57) (.t 58), [7, 8, 5], (some (55, false))⟩⟩,
   ⟨false, ⟨(some 60), .load none (.t 59), [9, 5], (some (55, false))⟩⟩,
   ⟨false, ⟨(some 61), .bin .lss (.t 56) (.t 60), [6, 10, 5], (some (55, false))⟩⟩,
   ⟨true, ⟨(some 62), .pick (.t 55) (.c (.bool true)) (.t 61), [5, 11], none⟩⟩] [] 70931694131085312)
 (.cond (.t 62)
  (.region [⟨true, ⟨(some 63), .mov (.t 7), [], none⟩⟩,
    ⟨true, ⟨(some 64), .mov (.t 8), [], none⟩⟩,
    ⟨true, ⟨(some 65), .mov (.t 11), [], none⟩⟩,
    ⟨true, ⟨(some 66), .iaddr none 1 (.t 63) (.t 64), [0, 1, 0, 1, 2], none⟩⟩,
    ⟨false, ⟨none, .store 1 (.t 66) (.t 65), [3, 2, 0, 1, 2], none⟩⟩] [] 142962266571249027072)
  .skip))))))
 (.region [⟨true, ⟨(some 67), .bin .add (.t 32) (.c (.int .i64 (.ofNat 1))), [], none⟩⟩,
   ⟨false, ⟨(some 32), .mov (.t 67), [0], none⟩⟩] [] 152185638608103802880))))))))))
 (.region [⟨true, ⟨(some 68), .bin .add (.t 24) (.c (.int .i64 (.ofNat 1))), [], none⟩⟩,
   ⟨false, ⟨(some 24), .mov (.t 68), [0], none⟩⟩] [] 295147905186869018880)))))))
 (.seq (.region [⟨true, ⟨(some 69), .mov (.t 7), [], none⟩⟩,
   ⟨true, ⟨(some 4), .mov (.t 69), [0, 0], none⟩⟩,
   ⟨true, ⟨(some 5), .mov (.c (.int .i64 (.ofNat 0))), [1, 0, 1], none⟩⟩] [] 594835438783120277638)
 .ret)))))⟩

-- overseer/invariant.Excludes
def f24 : FFn := ⟨44, [.tmp 6, .tmp 7, .tmp 8],
 (.seq (.region [⟨true, ⟨(some 3), .box .dyn (.t 0), [], none⟩⟩,
   ⟨true, ⟨(some 6), .mov (.c (.int .i64 (.ofNat 0))), [], none⟩⟩,
   ⟨true, ⟨(some 7), .mov (.c (.bool false)), [1], none⟩⟩,
   ⟨true, ⟨(some 8), .mov (.c (.int .i64 (.ofNat 0))), [2], none⟩⟩] [] 449)
 (.seq (.seq (.region [⟨true, ⟨(some 13), .load (some 2) (.t 3), [], none⟩⟩,
   ⟨true, ⟨(some 14), .mov (.t 1), [], none⟩⟩,
   ⟨true, ⟨(some 15), .call .heap (.f 45) [(.t 13), (.t 14)], [0, 1], none⟩⟩,
   ⟨true, ⟨(some 9), .mov (.t 15), [2, 2, 0, 1, 2], none⟩⟩] [] 57344)
 (.seq (.region [⟨true, ⟨(some 16), .mov (.t 9), [], none⟩⟩,
   ⟨true, ⟨(some 17), .bin .neq (.t 16) (.c (.int .i64 (.ofNat 0))), [0], none⟩⟩] [] 65536)
 (.cond (.t 17)
  (.seq (.region [⟨true, ⟨(some 18), .mov (.t 9), [], none⟩⟩,
    ⟨true, ⟨(some 6), .mov (.c (.int .i64 (.ofNat 0))), [], none⟩⟩,
    ⟨true, ⟨(some 7), .mov (.c (.bool false)), [1, 1], none⟩⟩,
    ⟨true, ⟨(some 8), .mov (.t 18), [0, 2, 0, 1, 2], none⟩⟩] [] 393742)
  .ret)
  .skip)))
 (.seq (.seq (.region [⟨true, ⟨(some 19), .mov (.t 2), [], none⟩⟩,
   ⟨true, ⟨(some 20), .faddr 0 (.t 3), [], none⟩⟩,
   ⟨true, ⟨(some 21), .load none (.t 20), [1], none⟩⟩,
   ⟨true, ⟨(some 22), .len 1 (.t 21), [2], none⟩⟩,
   ⟨true, ⟨(some 23), .call .heap (.f 47) [(.t 19), (.t 22)], [0, 3], none⟩⟩,
   ⟨true, ⟨(some 10), .mov (.t 23), [4, 4, 0, 1, 2, 3, 4], none⟩⟩] [] 16384960)
 (.seq (.region [⟨true, ⟨(some 24), .mov (.t 10), [], none⟩⟩,
   ⟨true, ⟨(some 25), .bin .neq (.t 24) (.c (.int .i64 (.ofNat 0))), [0], none⟩⟩] [] 16777216)
 (.cond (.t 25)
  (.seq (.region [⟨true, ⟨(some 26), .mov (.t 10), [], none⟩⟩,
    ⟨true, ⟨(some 6), .mov (.c (.int .i64 (.ofNat 0))), [], none⟩⟩,
    ⟨true, ⟨(some 7), .mov (.c (.bool false)), [1, 1], none⟩⟩,
    ⟨true, ⟨(some 8), .mov (.t 26), [0, 2, 0, 1, 2], none⟩⟩] [] 100664334)
  .ret)
  .skip)))
 (.seq (.seq (.region [⟨true, ⟨(some 27), .mov (.t 1), [], none⟩⟩,
   ⟨true, ⟨(some 28), .len 1 (.t 27), [0], none⟩⟩,
   ⟨true, ⟨(some 29), .mov (.c (.int .i64 (.ofNat 0))), [], none⟩⟩] [] 33555906)
 (.block 0 (.loop (.seq (.region [⟨true, ⟨(some 30), .bin .lss (.t 29) (.t 28), [], none⟩⟩] [] 0)
 (.seq (.cond (.t 30)
  .skip
  (.exit 0))
 (.seq (.block 1 (.seq (.region [⟨true, ⟨(some 31), .mov (.t 29), [], none⟩⟩,
   ⟨true, ⟨(some 32), .iaddr none 1 (.t 27) (.t 29), [], none⟩⟩,
   ⟨true, ⟨(some 33), .load none (.t 32), [1], none⟩⟩,
   ⟨true, ⟨(some 11), .mov (.t 31), [0, 0, 1, 2], none⟩⟩,
   ⟨true, ⟨(some 12), .mov (.t 33), [2, 3, 0, 1, 2, 3], none⟩⟩] [] 16106127360)
 (.seq (.region [⟨true, ⟨(some 34), .mov (.t 12), [], none⟩⟩,
   ⟨true, ⟨(some 35), .mov (.t 2), [], none⟩⟩,
   ⟨true, ⟨(some 36), .call .borrow (.f 46) [(.t 34), (.t 35)], [0, 1], none⟩⟩,
   ⟨true, ⟨(some 37), .mov (.t 12), [], none⟩⟩,
   ⟨true, ⟨(some 38), .faddr 0 (.t 3), [], none⟩⟩,
   ⟨true, ⟨(some 39), .load none (.t 38), [4], none⟩⟩,
   ⟨true, ⟨(some 40), .call .borrow (.f 46) [(.t 37), (.t 39)], [3, 5, 2], none⟩⟩,
   ⟨true, ⟨(some 41), .bin .neq (.t 36) (.t 40), [2, 6], none⟩⟩] [] 2181843390464)
 (.cond (.t 41)
  (.seq (.region [⟨true, ⟨(some 42), .mov (.t 11), [], none⟩⟩,
    ⟨true, ⟨(some 6), .mov (.t 42), [0, 0], none⟩⟩,
    ⟨true, ⟨(some 7), .mov (.c (.bool true)), [1, 0, 1], none⟩⟩,
    ⟨true, ⟨(some 8), .mov (.c (.int .i64 (.ofNat 0))), [2, 0, 1, 2], none⟩⟩] [] 6598009292812)
  .ret)
  .skip))))
 (.region [⟨true, ⟨(some 43), .bin .add (.t 29) (.c (.int .i64 (.ofNat 1))), [], none⟩⟩,
   ⟨false, ⟨(some 29), .mov (.t 43), [0], none⟩⟩] [] 10995116280256)))))))
 (.seq (.region [⟨true, ⟨(some 6), .mov (.c (.int .i64 (.ofNat 0))), [], none⟩⟩,
   ⟨true, ⟨(some 7), .mov (.c (.bool false)), [0, 0], none⟩⟩,
   ⟨true, ⟨(some 8), .mov (.c (.int .i64 (.ofNat 0))), [1, 0, 1], none⟩⟩] [] 939524108)
 .ret)))))⟩

-- overseer/overseerlaw48.same
def f29 : FFn := ⟨26, [.tmp 4],
 (.seq (.region [⟨true, ⟨(some 4), .mov (.c (.bool false)), [], none⟩⟩] [] 16)
 (.seq (.seq (.region [⟨true, ⟨(some 6), .mov (.t 0), [], none⟩⟩,
   ⟨true, ⟨(some 7), .len 1 (.t 6), [0], none⟩⟩,
   ⟨true, ⟨(some 8), .mov (.t 1), [], none⟩⟩,
   ⟨true, ⟨(some 9), .len 1 (.t 8), [2], none⟩⟩,
   ⟨true, ⟨(some 10), .bin .neq (.t 7) (.t 9), [1, 3], none⟩⟩] [] 960)
 (.cond (.t 10)
  (.seq (.region [⟨true, ⟨(some 4), .mov (.c (.bool false)), [], none⟩⟩] [] 1027)
  .ret)
  .skip))
 (.seq (.seq (.region [⟨true, ⟨(some 5), .mov (.c (.int .i64 (.ofNat 0))), [], none⟩⟩] [] 1040)
 (.block 0 (.loop (.seq (.seq (.region [⟨true, ⟨(some 11), .mov (.t 5), [], none⟩⟩,
   ⟨true, ⟨(some 12), .mov (.t 0), [], none⟩⟩,
   ⟨true, ⟨(some 13), .len 1 (.t 12), [1], none⟩⟩,
   ⟨true, ⟨(some 14), .bin .lss (.t 11) (.t 13), [0, 2], none⟩⟩] [] 14336)
 (.cond (.t 14)
  .skip
  (.exit 0)))
 (.seq (.block 1 (.seq (.region [⟨true, ⟨(some 17), .mov (.t 0), [], none⟩⟩,
   ⟨true, ⟨(some 18), .mov (.t 5), [], none⟩⟩,
   ⟨true, ⟨(some 19), .iaddr none 1 (.t 17) (.t 18), [0, 1], none⟩⟩,
   ⟨true, ⟨(some 20), .load none (.t 19), [2], none⟩⟩,
   ⟨true, ⟨(some 21), .mov (.t 1), [], none⟩⟩,
   ⟨true, ⟨(some 22), .mov (.t 5), [], none⟩⟩,
   ⟨true, ⟨(some 23), .iaddr none 1 (.t 21) (.t 22), [4, 5], none⟩⟩,
   ⟨true, ⟨(some 24), .load none (.t 23), [6], none⟩⟩,
   ⟨true, ⟨(some 25), .bin .neq (.t 20) (.t 24), [3, 7], none⟩⟩] [] 33439744)
 (.cond (.t 25)
  (.seq (.region [⟨true, ⟨(some 4), .mov (.c (.bool false)), [], none⟩⟩] [] 33554467)
  .ret)
  .skip)))
 (.region [⟨true, ⟨(some 15), .mov (.t 5), [], none⟩⟩,
   ⟨true, ⟨(some 16), .bin .add (.t 15) (.c (.int .i64 (.ofNat 1))), [0], none⟩⟩,
   ⟨false, ⟨(some 5), .mov (.t 16), [1, 0, 1], none⟩⟩] [] 33652752))))))
 (.seq (.region [⟨true, ⟨(some 4), .mov (.c (.bool true)), [], none⟩⟩] [] 35)
 .ret))))⟩

-- overseer/invariant.Support
def f30 : FFn := ⟨21, [.tmp 2],
 (.seq (.region [⟨true, ⟨(some 2), .mov (.c .nilsl), [], none⟩⟩] [] 4)
 (.seq (.region [⟨true, ⟨(some 3), .mov (.c .nilsl), [], none⟩⟩] [] 0)
 (.seq (.seq (.region [⟨true, ⟨(some 6), .mov (.t 0), [], none⟩⟩,
   ⟨true, ⟨(some 7), .len 1 (.t 6), [0], none⟩⟩,
   ⟨true, ⟨(some 8), .mov (.c (.int .i64 (.ofNat 0))), [], none⟩⟩] [] 1)
 (.block 0 (.loop (.seq (.region [⟨true, ⟨(some 9), .bin .lss (.t 8) (.t 7), [], none⟩⟩] [] 0)
 (.seq (.cond (.t 9)
  .skip
  (.exit 0))
 (.seq (.block 1 (.seq (.region [⟨true, ⟨(some 10), .mov (.t 8), [], none⟩⟩,
   ⟨true, ⟨(some 11), .iaddr none 1 (.t 6) (.t 8), [], none⟩⟩,
   ⟨true, ⟨(some 12), .load none (.t 11), [1], none⟩⟩,
   ⟨true, ⟨(some 4), .mov (.t 10), [0, 0, 1, 2], none⟩⟩,
   ⟨true, ⟨(some 5), .mov (.t 12), [2, 3, 0, 1, 2, 3], none⟩⟩] [] 7680)
 (.seq (.region [⟨true, ⟨(some 13), .mov (.t 5), [], none⟩⟩,
   ⟨true, ⟨(some 14), .bin .neq (.t 13) (.c (.int .i64 (.ofNat 0))), [0], none⟩⟩] [] 8224)
 (.cond (.t 14)
  (.region [⟨true, ⟨(some 15), .mov (.t 3), [], none⟩⟩,
    ⟨true, ⟨(some 16), .mov (.t 4), [], none⟩⟩,
    ⟨true, ⟨(some 17), .bslice false .dyn 1 1 [(.int .i64 (.ofNat 0))] [(0, 1, (.t 16))], [1], none⟩⟩,
    ⟨true, ⟨(some 18), .append .dyn 1 8 (.t 15) (.t 17), [0, 2], none⟩⟩,
    ⟨false, ⟨(some 3), .mov (.t 18), [3, 3, 0, 1, 2, 3], none⟩⟩] [] 507920)
  .skip))))
 (.region [⟨true, ⟨(some 19), .bin .add (.t 8) (.c (.int .i64 (.ofNat 1))), [], none⟩⟩,
   ⟨false, ⟨(some 8), .mov (.t 19), [0], none⟩⟩] [] 540688)))))))
 (.seq (.region [⟨true, ⟨(some 20), .mov (.t 3), [], none⟩⟩,
   ⟨true, ⟨(some 2), .mov (.t 20), [0, 0], none⟩⟩] [] 1049032)
 .ret))))⟩

-- overseer/net.Check
def f37 : FFn := ⟨58, [.tmp 2],
 (.seq (.region [⟨true, ⟨(some 1), .box .dyn (.t 0), [], none⟩⟩,
   ⟨true, ⟨(some 2), .mov (.c (.int .i64 (.ofNat 0))), [], none⟩⟩] [] 5)
 (.seq (.block 0 (.seq (.region [⟨true, ⟨(some 9), .faddr 0 (.t 1), [], none⟩⟩,
   ⟨true, ⟨(some 10), .load none (.t 9), [0], none⟩⟩,
   ⟨true, ⟨(some 11), .len 1 (.t 10), [1], none⟩⟩,
   ⟨true, ⟨(some 12), .bin .gtr (.t 11) (.c (.int .i64 (.ofNat 10))), [2], none⟩⟩,
   ⟨true, ⟨(some 8), .mov (.t 12), [3], none⟩⟩] [] 7680)
 (.cond (.t 8)
  (.seq (.region [⟨true, ⟨(some 2), .mov (.c (.int .i64 (.ofNat 3))), [], none⟩⟩] [] 258)
  .ret)
  (.seq (.region [⟨true, ⟨(some 14), .faddr 0 (.t 1), [], none⟩⟩,
    ⟨true, ⟨(some 15), .load none (.t 14), [0], none⟩⟩,
    ⟨true, ⟨(some 16), .call .heap (.f 57) [(.t 15)], [1], none⟩⟩,
    ⟨true, ⟨(some 17), .un .not (.t 16), [2], none⟩⟩,
    ⟨true, ⟨(some 13), .mov (.t 17), [3, 2], none⟩⟩] [] 246016)
  (.cond (.t 13)
   (.seq (.region [⟨true, ⟨(some 2), .mov (.c (.int .i64 (.ofNat 2))), [], none⟩⟩] [] 8194)
   .ret)
   (.seq (.region [⟨true, ⟨(some 19), .faddr 1 (.t 1), [], none⟩⟩,
     ⟨true, ⟨(some 20), .load none (.t 19), [0], none⟩⟩,
     ⟨true, ⟨(some 21), .len 1 (.t 20), [1], none⟩⟩,
     ⟨true, ⟨(some 22), .bin .gtr (.t 21) (.c (.int .i64 (.ofNat 10))), [2], none⟩⟩,
     ⟨true, ⟨(some 18), .mov (.t 22), [3], none⟩⟩] [] 7872512)
   (.cond (.t 18)
    (.seq (.region [⟨true, ⟨(some 2), .mov (.c (.int .i64 (.ofNat 3))), [], none⟩⟩] [] 262146)
    .ret)
    .skip)))))))
 (.seq (.seq (.region [⟨true, ⟨(some 23), .faddr 1 (.t 1), [], none⟩⟩,
   ⟨true, ⟨(some 24), .load none (.t 23), [0], none⟩⟩,
   ⟨true, ⟨(some 25), .len 1 (.t 24), [1], none⟩⟩,
   ⟨true, ⟨(some 26), .mov (.c (.int .i64 (.ofNat 0))), [], none⟩⟩] [] 8650756)
 (.block 1 (.loop (.seq (.region [⟨true, ⟨(some 27), .bin .lss (.t 26) (.t 25), [], none⟩⟩] [] 0)
 (.seq (.cond (.t 27)
  .skip
  (.exit 1))
 (.seq (.block 2 (.seq (.region [⟨true, ⟨(some 28), .iaddr none 3 (.t 24) (.t 26), [], none⟩⟩,
   ⟨true, ⟨(some 29), .load (some 3) (.t 28), [0], none⟩⟩,
   ⟨true, ⟨(some 4), .alloc .dyn (.agg [(.int .i64 (.ofNat 0)), .nilsl, .nilsl]), [], none⟩⟩,
   ⟨false, ⟨none, .store 3 (.t 4) (.t 29), [2, 1, 0, 1, 2], none⟩⟩] [] 939524096)
 (.seq (.seq (.region [⟨true, ⟨(some 30), .faddr 0 (.t 4), [], none⟩⟩,
   ⟨true, ⟨(some 31), .load none (.t 30), [0], none⟩⟩,
   ⟨true, ⟨(some 32), .bin .lss (.t 31) (.c (.int .i64 (.ofNat 0))), [1], none⟩⟩,
   ⟨true, ⟨(some 33), .mov (.t 32), [2], none⟩⟩,
   ⟨false, ⟨(some 34), .faddr 0 (.t 4), [3], (some (33, false))⟩⟩,
   ⟨false, ⟨(some 35), .load none (.t 34), [4, 3], (some (33, false))⟩⟩,
   ⟨false, ⟨(some 36), .bin .geq (.t 35) (.c (.int .i64 (.ofNat 32))), [5, 3], (some (33, false))⟩⟩,
   ⟨true, ⟨(some 37), .pick (.t 33) (.c (.bool true)) (.t 36), [3, 6], none⟩⟩] [] 16106127360)
 (.cond (.t 37)
  (.seq (.region [⟨true, ⟨(some 2), .mov (.c (.int .i64 (.ofNat 2))), [], none⟩⟩] [] 257815478290)
  .ret)
  .skip))
 (.seq (.region [⟨true, ⟨(some 38), .faddr 1 (.t 4), [], none⟩⟩,
   ⟨true, ⟨(some 39), .load none (.t 38), [0], none⟩⟩,
   ⟨true, ⟨(some 40), .faddr 2 (.t 4), [], none⟩⟩,
   ⟨true, ⟨(some 41), .load none (.t 40), [2], none⟩⟩,
   ⟨true, ⟨(some 42), .bslice false .dyn 1 2 [.nilsl, .nilsl] [(0, 1, (.t 39)), (1, 1, (.t 41))], [1, 3], none⟩⟩,
   ⟨true, ⟨(some 43), .len 1 (.t 42), [4], none⟩⟩,
   ⟨true, ⟨(some 44), .mov (.c (.int .i64 (.ofNat 0))), [], none⟩⟩] [] 4260607557652)
 (.block 3 (.loop (.seq (.region [⟨true, ⟨(some 45), .bin .lss (.t 44) (.t 43), [], none⟩⟩] [] 0)
 (.seq (.cond (.t 45)
  .skip
  (.exit 3))
 (.seq (.block 4 (.seq (.region [⟨true, ⟨(some 46), .iaddr none 1 (.t 42) (.t 44), [], none⟩⟩,
   ⟨true, ⟨(some 47), .load none (.t 46), [0], none⟩⟩,
   ⟨true, ⟨(some 6), .mov (.t 47), [1, 0, 1], none⟩⟩] [] 246290604621824)
 (.seq (.region [⟨true, ⟨(some 48), .mov (.t 6), [], none⟩⟩,
   ⟨true, ⟨(some 49), .faddr 0 (.t 1), [], none⟩⟩,
   ⟨true, ⟨(some 50), .load none (.t 49), [1], none⟩⟩,
   ⟨true, ⟨(some 51), .len 1 (.t 50), [2], none⟩⟩,
   ⟨true, ⟨(some 52), .call .heap (.f 58) [(.t 48), (.t 51)], [0, 3], none⟩⟩,
   ⟨true, ⟨(some 7), .mov (.t 52), [4, 4, 0, 1, 2, 3, 4], none⟩⟩] [] 8725724278030400)
 (.seq (.region [⟨true, ⟨(some 53), .mov (.t 7), [], none⟩⟩,
   ⟨true, ⟨(some 54), .bin .neq (.t 53) (.c (.int .i64 (.ofNat 0))), [0], none⟩⟩] [] 9007199254740992)
 (.cond (.t 54)
  (.seq (.region [⟨true, ⟨(some 55), .mov (.t 7), [], none⟩⟩,
    ⟨true, ⟨(some 2), .mov (.t 55), [0, 0], none⟩⟩] [] 54074102230548610)
  .ret)
  .skip)))))
 (.region [⟨true, ⟨(some 56), .bin .add (.t 44) (.c (.int .i64 (.ofNat 1))), [], none⟩⟩,
   ⟨false, ⟨(some 44), .mov (.t 56), [0], none⟩⟩] [] 90071992547410052))))))))))
 (.region [⟨true, ⟨(some 57), .bin .add (.t 26) (.c (.int .i64 (.ofNat 1))), [], none⟩⟩,
   ⟨false, ⟨(some 26), .mov (.t 57), [0], none⟩⟩] [] 144145974401433600)))))))
 (.seq (.region [⟨true, ⟨(some 2), .mov (.c (.int .i64 (.ofNat 0))), [], none⟩⟩] [] 120376524802)
 .ret))))⟩

-- overseer/overseerlaw48.exchange
def f38 : FFn := ⟨14, [.cell 0 (some 2)],
 (.seq (.region [⟨true, ⟨(some 0), .alloc .dyn (.agg [.nilsl, .nilsl]), [], none⟩⟩] [] 0)
 (.seq (.region [⟨true, ⟨(some 1), .bslice false .dyn 1 2 [(.int .i64 (.ofNat 0)), (.int .i64 (.ofNat 0))] [(0, 1, (.c (.int .i64 (.ofNat 1)))), (1, 1, (.c (.int .i64 (.ofNat 0))))], [], none⟩⟩,
   ⟨true, ⟨(some 2), .build [(.int .i64 (.ofNat 0)), (.int .i64 (.ofNat 0))] [(0, 1, (.c (.int .i64 (.ofNat 0)))), (1, 1, (.c (.int .i64 (.ofNat 1))))], [], none⟩⟩,
   ⟨true, ⟨(some 3), .bslice false .dyn 2 1 [(.int .i64 (.ofNat 0)), (.int .i64 (.ofNat 0))] [(0, 2, (.t 2))], [1], none⟩⟩,
   ⟨true, ⟨(some 4), .build [(.int .i64 (.ofNat 0)), (.int .i64 (.ofNat 0))] [(0, 1, (.c (.int .i64 (.ofNat 1)))), (1, 1, (.c (.int .i64 (.ofNat 1))))], [], none⟩⟩,
   ⟨true, ⟨(some 5), .bslice false .dyn 2 1 [(.int .i64 (.ofNat 0)), (.int .i64 (.ofNat 0))] [(0, 2, (.t 4))], [3], none⟩⟩,
   ⟨true, ⟨(some 6), .build [(.int .i64 (.ofNat 0)), .nilsl, .nilsl] [(0, 1, (.c (.int .i64 (.ofNat 0)))), (1, 1, (.t 3)), (2, 1, (.t 5))], [2, 4], none⟩⟩,
   ⟨true, ⟨(some 7), .build [(.int .i64 (.ofNat 0)), (.int .i64 (.ofNat 0))] [(0, 1, (.c (.int .i64 (.ofNat 1)))), (1, 1, (.c (.int .i64 (.ofNat 1))))], [], none⟩⟩,
   ⟨true, ⟨(some 8), .bslice false .dyn 2 1 [(.int .i64 (.ofNat 0)), (.int .i64 (.ofNat 0))] [(0, 2, (.t 7))], [6], none⟩⟩,
   ⟨true, ⟨(some 9), .build [(.int .i64 (.ofNat 0)), (.int .i64 (.ofNat 0))] [(0, 1, (.c (.int .i64 (.ofNat 0)))), (1, 1, (.c (.int .i64 (.ofNat 1))))], [], none⟩⟩,
   ⟨true, ⟨(some 10), .bslice false .dyn 2 1 [(.int .i64 (.ofNat 0)), (.int .i64 (.ofNat 0))] [(0, 2, (.t 9))], [8], none⟩⟩,
   ⟨true, ⟨(some 11), .build [(.int .i64 (.ofNat 0)), .nilsl, .nilsl] [(0, 1, (.c (.int .i64 (.ofNat 1)))), (1, 1, (.t 8)), (2, 1, (.t 10))], [7, 9], none⟩⟩,
   ⟨true, ⟨(some 12), .bslice false .dyn 3 2 [(.int .i64 (.ofNat 0)), .nilsl, .nilsl, (.int .i64 (.ofNat 0)), .nilsl, .nilsl] [(0, 3, (.t 6)), (3, 3, (.t 11))], [5, 10], none⟩⟩,
   ⟨true, ⟨(some 13), .build [.nilsl, .nilsl] [(0, 1, (.t 1)), (1, 1, (.t 12))], [0, 11], none⟩⟩,
   ⟨false, ⟨none, .store 2 (.t 0) (.t 13), [12, 0, 1, 2, 3, 4, 5, 6, 7, 8, 9, 10, 11, 12], none⟩⟩] [] 16382)
 .ret))⟩

-- overseer/invariant.newTable
def f39 : FFn := ⟨80, [.cell 4 (some 2), .tmp 5],
 (.seq (.region [⟨true, ⟨(some 2), .box .dyn (.t 0), [], none⟩⟩,
   ⟨true, ⟨(some 4), .alloc .dyn (.agg [(.int .i64 (.ofNat 0)), .nilsl]), [], none⟩⟩,
   ⟨true, ⟨(some 5), .mov (.c (.int .i64 (.ofNat 0))), [], none⟩⟩] [] 33)
 (.seq (.region [⟨true, ⟨(some 14), .load (some 2) (.t 2), [], none⟩⟩,
   ⟨true, ⟨(some 15), .call .heap (.f 48) [(.t 14)], [0], none⟩⟩,
   ⟨true, ⟨(some 13), .mov (.t 15), [1], none⟩⟩,
   ⟨true, ⟨(some 16), .extract 0 (.t 13), [2], none⟩⟩,
   ⟨true, ⟨(some 17), .extract 1 (.t 13), [2], none⟩⟩,
   ⟨true, ⟨(some 6), .mov (.t 16), [3, 1, 0, 1, 2, 3], none⟩⟩,
   ⟨true, ⟨(some 7), .mov (.t 17), [4, 5, 0, 1, 2, 3, 4, 5], none⟩⟩] [] 253952)
 (.seq (.seq (.region [⟨true, ⟨(some 18), .mov (.t 7), [], none⟩⟩,
   ⟨true, ⟨(some 19), .bin .neq (.t 18) (.c (.int .i64 (.ofNat 0))), [0], none⟩⟩] [] 262144)
 (.cond (.t 19)
  (.seq (.region [⟨true, ⟨(some 20), .build [(.int .i64 (.ofNat 0)), .nilsl] [], [], none⟩⟩,
    ⟨true, ⟨(some 21), .mov (.t 7), [], none⟩⟩,
    ⟨false, ⟨none, .store 2 (.t 4) (.t 20), [0, 0], none⟩⟩,
    ⟨true, ⟨(some 5), .mov (.t 21), [1, 2, 0, 1, 2], none⟩⟩] [] 3670214)
  .ret)
  .skip))
 (.seq (.seq (.region [⟨true, ⟨(some 22), .mov (.t 1), [], none⟩⟩,
   ⟨true, ⟨(some 23), .bin .neq (.t 22) (.c (.int .i64 (.ofNat 1))), [0], none⟩⟩,
   ⟨true, ⟨(some 24), .mov (.t 23), [1], none⟩⟩,
   ⟨true, ⟨(some 25), .mov (.t 1), [2], (some (24, true))⟩⟩,
   ⟨true, ⟨(some 26), .bin .neq (.t 25) (.c (.int .i64 (.ofNat 2))), [3, 2], (some (24, true))⟩⟩,
   ⟨true, ⟨(some 27), .pick (.t 24) (.t 26) (.c (.bool false)), [2, 4], none⟩⟩] [] 130547872)
 (.cond (.t 27)
  (.seq (.region [⟨true, ⟨(some 28), .build [(.int .i64 (.ofNat 0)), .nilsl] [], [], none⟩⟩,
    ⟨false, ⟨none, .store 2 (.t 4) (.t 28), [0, 0], none⟩⟩,
    ⟨true, ⟨(some 5), .mov (.c (.int .i64 (.ofNat 11))), [1, 0, 1], none⟩⟩] [] 402653254)
  .ret)
  .skip))
 (.seq (.region [⟨true, ⟨(some 29), .faddr 0 (.t 2), [], none⟩⟩,
   ⟨true, ⟨(some 30), .load none (.t 29), [0], none⟩⟩,
   ⟨true, ⟨(some 31), .len 1 (.t 30), [1], none⟩⟩,
   ⟨true, ⟨(some 32), .faddr 1 (.t 2), [], none⟩⟩,
   ⟨true, ⟨(some 33), .load none (.t 32), [3], none⟩⟩,
   ⟨true, ⟨(some 34), .len 1 (.t 33), [4], none⟩⟩,
   ⟨true, ⟨(some 35), .mkslice .dyn 10 80 [(.int .i64 (.ofNat 0)), (.int .i64 (.ofNat 0)), (.int .i64 (.ofNat 0)), (.int .i64 (.ofNat 0)), (.int .i64 (.ofNat 0)), (.int .i64 (.ofNat 0)), (.int .i64 (.ofNat 0)), (.int .i64 (.ofNat 0)), (.int .i64 (.ofNat 0)), (.int .i64 (.ofNat 0))] (.t 34) (.t 34), [5, 5], none⟩⟩,
   ⟨true, ⟨(some 36), .build [(.int .i64 (.ofNat 0)), .nilsl] [(0, 1, (.t 31)), (1, 1, (.t 35))], [2, 6], none⟩⟩,
   ⟨true, ⟨(some 8), .alloc .dyn (.agg [(.int .i64 (.ofNat 0)), .nilsl]), [], none⟩⟩,
   ⟨false, ⟨none, .store 2 (.t 8) (.t 36), [8, 7, 0, 1, 2, 3, 4, 5, 6, 7, 8], none⟩⟩] [(1, 6), (2, 6), (1, 8), (2, 8), (4, 8), (5, 8), (6, 8)] 137036300320)
 (.seq (.seq (.region [⟨true, ⟨(some 37), .mov (.t 1), [], none⟩⟩,
   ⟨true, ⟨(some 38), .bin .eql (.t 37) (.c (.int .i64 (.ofNat 2))), [0], none⟩⟩] [] 137438953472)
 (.cond (.t 38)
  (.region [⟨true, ⟨(some 39), .faddr 1 (.t 2), [], none⟩⟩,
    ⟨true, ⟨(some 40), .load none (.t 39), [0], none⟩⟩,
    ⟨true, ⟨(some 41), .len 1 (.t 40), [1], none⟩⟩,
    ⟨true, ⟨(some 42), .faddr 0 (.t 2), [], none⟩⟩,
    ⟨true, ⟨(some 43), .load none (.t 42), [3], none⟩⟩,
    ⟨true, ⟨(some 44), .len 1 (.t 43), [4], none⟩⟩,
    ⟨true, ⟨(some 45), .mkslice .dyn 10 80 [(.int .i64 (.ofNat 0)), (.int .i64 (.ofNat 0)), (.int .i64 (.ofNat 0)), (.int .i64 (.ofNat 0)), (.int .i64 (.ofNat 0)), (.int .i64 (.ofNat 0)), (.int .i64 (.ofNat 0)), (.int .i64 (.ofNat 0)), (.int .i64 (.ofNat 0)), (.int .i64 (.ofNat 0))] (.t 44) (.t 44), [5, 5], none⟩⟩,
    ⟨true, ⟨(some 46), .build [(.int .i64 (.ofNat 0)), .nilsl] [(0, 1, (.t 41)), (1, 1, (.t 45))], [2, 6], none⟩⟩,
    ⟨false, ⟨none, .store 2 (.t 8) (.t 46), [7, 0, 1, 2, 3, 4, 5, 6, 7], none⟩⟩] [(1, 6), (2, 6)] 140462610448388)
  .skip))
 (.seq (.seq (.region [⟨true, ⟨(some 47), .mov (.t 6), [], none⟩⟩,
   ⟨true, ⟨(some 48), .len 1 (.t 47), [0], none⟩⟩,
   ⟨true, ⟨(some 49), .mov (.c (.int .i64 (.ofNat 0))), [], none⟩⟩] [] 274877907012)
 (.block 0 (.loop (.seq (.region [⟨true, ⟨(some 50), .bin .lss (.t 49) (.t 48), [], none⟩⟩] [] 0)
 (.seq (.cond (.t 50)
  .skip
  (.exit 0))
 (.seq (.block 1 (.seq (.region [⟨true, ⟨(some 51), .mov (.t 49), [], none⟩⟩,
   ⟨true, ⟨(some 52), .iaddr none 1 (.t 47) (.t 49), [], none⟩⟩,
   ⟨true, ⟨(some 53), .load none (.t 52), [1], none⟩⟩,
   ⟨true, ⟨(some 9), .mov (.t 51), [0, 0, 1, 2], none⟩⟩,
   ⟨true, ⟨(some 10), .mov (.t 53), [2, 3, 0, 1, 2, 3], none⟩⟩] [] 16888498602639360)
 (.seq (.region [⟨true, ⟨(some 54), .mov (.t 10), [], none⟩⟩,
   ⟨true, ⟨(some 55), .len 1 (.t 54), [0], none⟩⟩,
   ⟨true, ⟨(some 56), .mov (.c (.int .i64 (.ofNat 0))), [], none⟩⟩] [] 1024)
 (.block 2 (.loop (.seq (.region [⟨true, ⟨(some 57), .bin .lss (.t 56) (.t 55), [], none⟩⟩] [] 0)
 (.seq (.cond (.t 57)
  .skip
  (.exit 2))
 (.seq (.block 3 (.seq (.region [⟨true, ⟨(some 58), .mov (.t 56), [], none⟩⟩,
   ⟨true, ⟨(some 59), .iaddr none 1 (.t 54) (.t 56), [], none⟩⟩,
   ⟨true, ⟨(some 60), .load none (.t 59), [1], none⟩⟩,
   ⟨true, ⟨(some 11), .mov (.t 58), [0, 0, 1, 2], none⟩⟩,
   ⟨true, ⟨(some 12), .mov (.t 60), [2, 3, 0, 1, 2, 3], none⟩⟩] [] 2161727821137838080)
 (.seq (.region [⟨true, ⟨(some 61), .mov (.t 1), [], none⟩⟩,
   ⟨true, ⟨(some 62), .bin .eql (.t 61) (.c (.int .i64 (.ofNat 1))), [0], none⟩⟩] [] 2305843009213693952)
 (.cond (.t 62)
  (.region [⟨true, ⟨(some 63), .faddr 1 (.t 8), [], none⟩⟩,
    ⟨true, ⟨(some 64), .load none (.t 63), [0], none⟩⟩,
    ⟨true, ⟨(some 65), .mov (.t 11), [], none⟩⟩,
    ⟨true, ⟨(some 66), .mov (.t 9), [], none⟩⟩,
    ⟨true, ⟨(some 67), .mov (.t 12), [], none⟩⟩,
    ⟨true, ⟨(some 68), .iaddr none 10 (.t 64) (.t 65), [1, 2], none⟩⟩,
    ⟨true, ⟨(some 69), .iaddr (some 10) 1 (.t 68) (.t 66), [5, 3, 0, 1, 2, 3, 4], none⟩⟩,
    ⟨false, ⟨none, .store 1 (.t 69) (.t 67), [6, 4, 0, 1, 2, 3, 4], none⟩⟩] [] 1175979934698983921664)
  (.region [⟨true, ⟨(some 70), .faddr 1 (.t 8), [], none⟩⟩,
    ⟨true, ⟨(some 71), .load none (.t 70), [0], none⟩⟩,
    ⟨true, ⟨(some 72), .mov (.t 9), [], none⟩⟩,
    ⟨true, ⟨(some 73), .mov (.t 11), [], none⟩⟩,
    ⟨true, ⟨(some 74), .mov (.t 12), [], none⟩⟩,
    ⟨true, ⟨(some 75), .iaddr none 10 (.t 71) (.t 72), [1, 2], none⟩⟩,
    ⟨true, ⟨(some 76), .iaddr (some 10) 1 (.t 75) (.t 73), [5, 3, 0, 1, 2, 3, 4], none⟩⟩,
    ⟨false, ⟨none, .store 1 (.t 76) (.t 74), [6, 4, 0, 1, 2, 3, 4], none⟩⟩] [] 149939747517129662928896)))))
 (.region [⟨true, ⟨(some 77), .bin .add (.t 56) (.c (.int .i64 (.ofNat 1))), [], none⟩⟩,
   ⟨false, ⟨(some 56), .mov (.t 77), [0], none⟩⟩] [] 151115727451828646838272)))))))))
 (.region [⟨true, ⟨(some 78), .bin .add (.t 49) (.c (.int .i64 (.ofNat 1))), [], none⟩⟩,
   ⟨false, ⟨(some 49), .mov (.t 78), [0], none⟩⟩] [] 302231581004446860050944)))))))
 (.seq (.region [⟨true, ⟨(some 79), .load (some 2) (.t 8), [], none⟩⟩,
   ⟨false, ⟨none, .store 2 (.t 4) (.t 79), [0, 0], none⟩⟩,
   ⟨true, ⟨(some 5), .mov (.c (.int .i64 (.ofNat 0))), [1, 0, 1], none⟩⟩] [] 604462910792477005840642)
 .ret))))))))⟩

-- (overseer/invariant.table).listed
def f40 : FFn := ⟨48, [.tmp 2, .tmp 3],
 (.seq (.region [⟨true, ⟨(some 1), .box .dyn (.t 0), [], none⟩⟩,
   ⟨true, ⟨(some 2), .mov (.c .nilsl), [], none⟩⟩,
   ⟨true, ⟨(some 3), .mov (.c (.int .i64 (.ofNat 0))), [1], none⟩⟩] [] 13)
 (.seq (.region [⟨true, ⟨(some 10), .load (some 2) (.t 1), [], none⟩⟩,
   ⟨true, ⟨(some 11), .call .heap (.f 41) [(.t 10)], [0], none⟩⟩,
   ⟨true, ⟨(some 4), .mov (.t 11), [1, 1, 0, 1], none⟩⟩] [] 3072)
 (.seq (.seq (.region [⟨true, ⟨(some 12), .mov (.t 4), [], none⟩⟩,
   ⟨true, ⟨(some 13), .len 1 (.t 12), [0], none⟩⟩,
   ⟨true, ⟨(some 14), .bin .gtr (.t 13) (.c (.int .i64 (.ofNat 128))), [1], none⟩⟩] [] 12288)
 (.cond (.t 14)
  (.seq (.region [⟨true, ⟨(some 2), .mov (.c .nilsl), [], none⟩⟩,
    ⟨true, ⟨(some 3), .mov (.c (.int .i64 (.ofNat 3))), [0, 0], none⟩⟩] [] 16402)
  .ret)
  .skip))
 (.seq (.region [⟨true, ⟨(some 5), .mov (.c .nilsl), [], none⟩⟩] [] 16396)
 (.seq (.seq (.region [⟨true, ⟨(some 15), .mov (.t 4), [], none⟩⟩,
   ⟨true, ⟨(some 16), .len 1 (.t 15), [0], none⟩⟩,
   ⟨true, ⟨(some 17), .mov (.c (.int .i64 (.ofNat 0))), [], none⟩⟩] [] 16)
 (.block 0 (.loop (.seq (.region [⟨true, ⟨(some 18), .bin .lss (.t 17) (.t 16), [], none⟩⟩] [] 0)
 (.seq (.cond (.t 18)
  .skip
  (.exit 0))
 (.seq (.block 1 (.seq (.region [⟨true, ⟨(some 19), .iaddr none 11 (.t 15) (.t 17), [], none⟩⟩,
   ⟨true, ⟨(some 20), .load (some 11) (.t 19), [0], none⟩⟩,
   ⟨true, ⟨(some 7), .alloc .dyn (.agg [(.int .u16 (.ofNat 0)), (.int .i64 (.ofNat 0)), (.int .i64 (.ofNat 0)), (.int .i64 (.ofNat 0)), (.int .i64 (.ofNat 0)), (.int .i64 (.ofNat 0)), (.int .i64 (.ofNat 0)), (.int .i64 (.ofNat 0)), (.int .i64 (.ofNat 0)), (.int .i64 (.ofNat 0)), (.int .i64 (.ofNat 0))]), [], none⟩⟩,
   ⟨false, ⟨none, .store 11 (.t 7) (.t 20), [2, 1, 0, 1, 2], none⟩⟩] [] 1835008)
 (.seq (.region [⟨true, ⟨(some 21), .faddr 0 (.t 1), [], none⟩⟩,
   ⟨true, ⟨(some 22), .load none (.t 21), [0], none⟩⟩,
   ⟨true, ⟨(some 23), .mkslice .dyn 1 8 [(.int .i64 (.ofNat 0))] (.t 22) (.t 22), [1, 1], none⟩⟩,
   ⟨true, ⟨(some 8), .mov (.t 23), [2, 0, 1, 2], none⟩⟩] [] 14680064)
 (.seq (.seq (.region [⟨true, ⟨(some 24), .mov (.t 8), [], none⟩⟩,
   ⟨true, ⟨(some 25), .len 1 (.t 24), [0], none⟩⟩,
   ⟨true, ⟨(some 26), .mov (.c (.int .i64 (.ofNat 0))), [], none⟩⟩] [] 16777216)
 (.block 2 (.loop (.seq (.region [⟨true, ⟨(some 27), .bin .lss (.t 26) (.t 25), [], none⟩⟩] [] 0)
 (.seq (.cond (.t 27)
  .skip
  (.exit 2))
 (.seq (.block 3 (.seq (.region [⟨true, ⟨(some 28), .mov (.t 26), [], none⟩⟩,
   ⟨true, ⟨(some 9), .mov (.t 28), [0, 0], none⟩⟩] [] 402653184)
 (.seq (.seq (.region [⟨true, ⟨(some 29), .mov (.t 9), [], none⟩⟩,
   ⟨true, ⟨(some 30), .faddr 1 (.t 7), [], none⟩⟩,
   ⟨true, ⟨(some 31), .iaddr (some 10) 1 (.t 30) (.t 29), [1, 0], none⟩⟩,
   ⟨true, ⟨(some 32), .load none (.t 31), [2], none⟩⟩,
   ⟨true, ⟨(some 33), .bin .gtr (.t 32) (.c (.int .i64 (.ofNat 65536))), [3], none⟩⟩] [] 8053063680)
 (.cond (.t 33)
  (.seq (.region [⟨true, ⟨(some 2), .mov (.c .nilsl), [], none⟩⟩,
    ⟨true, ⟨(some 3), .mov (.c (.int .i64 (.ofNat 3))), [0, 0], none⟩⟩] [] 8690828194)
  .ret)
  .skip))
 (.region [⟨true, ⟨(some 34), .mov (.t 8), [], none⟩⟩,
   ⟨true, ⟨(some 35), .mov (.t 9), [], none⟩⟩,
   ⟨true, ⟨(some 36), .mov (.t 9), [], none⟩⟩,
   ⟨true, ⟨(some 37), .faddr 1 (.t 7), [], none⟩⟩,
   ⟨true, ⟨(some 38), .iaddr (some 10) 1 (.t 37) (.t 36), [3, 2], none⟩⟩,
   ⟨true, ⟨(some 39), .load none (.t 38), [4], none⟩⟩,
   ⟨true, ⟨(some 40), .iaddr none 1 (.t 34) (.t 35), [0, 1, 0, 1, 2, 3, 4, 5], none⟩⟩,
   ⟨false, ⟨none, .store 1 (.t 40) (.t 39), [6, 5, 0, 1, 2, 3, 4, 5], none⟩⟩] [] 2190433321484))))
 (.region [⟨true, ⟨(some 41), .bin .add (.t 26) (.c (.int .i64 (.ofNat 1))), [], none⟩⟩,
   ⟨false, ⟨(some 26), .mov (.t 41), [0], none⟩⟩] [] 2199023255552)))))))
 (.region [⟨true, ⟨(some 42), .mov (.t 5), [], none⟩⟩,
   ⟨true, ⟨(some 43), .mov (.t 8), [], none⟩⟩,
   ⟨true, ⟨(some 44), .bslice false .dyn 1 1 [.nilsl] [(0, 1, (.t 43))], [1], none⟩⟩,
   ⟨true, ⟨(some 45), .append .dyn 1 24 (.t 42) (.t 44), [0, 2], none⟩⟩,
   ⟨false, ⟨(some 5), .mov (.t 45), [3, 3, 0, 1, 2, 3], none⟩⟩] [] 65970798330240)))))
 (.region [⟨true, ⟨(some 46), .bin .add (.t 17) (.c (.int .i64 (.ofNat 1))), [], none⟩⟩,
   ⟨false, ⟨(some 17), .mov (.t 46), [0], none⟩⟩] [] 70368744177664)))))))
 (.seq (.region [⟨true, ⟨(some 47), .mov (.t 5), [], none⟩⟩,
   ⟨true, ⟨(some 2), .mov (.t 47), [0, 0], none⟩⟩,
   ⟨true, ⟨(some 3), .mov (.c (.int .i64 (.ofNat 0))), [1, 0, 1], none⟩⟩] [] 140737488584738)
 .ret))))))⟩

-- (overseer/invariant.table).minimal
def f41 : FFn := ⟨19, [.tmp 2],
 (.seq (.region [⟨true, ⟨(some 1), .box .dyn (.t 0), [], none⟩⟩,
   ⟨true, ⟨(some 2), .mov (.c .nilsl), [], none⟩⟩] [] 5)
 (.seq (.region [⟨true, ⟨(some 3), .alloc .dyn .nilsl, [], none⟩⟩] [] 0)
 (.seq (.region [⟨true, ⟨(some 6), .mkmap .dyn, [], none⟩⟩,
   ⟨true, ⟨(some 4), .alloc .dyn .nilmap, [], none⟩⟩,
   ⟨false, ⟨none, .store 1 (.t 4) (.t 6), [1, 0, 0, 1], none⟩⟩] [] 64)
 (.seq (.seq (.region [⟨true, ⟨(some 5), .mov (.c (.int .i64 (.ofNat 1))), [], none⟩⟩] [] 0)
 (.block 0 (.loop (.seq (.seq (.region [⟨true, ⟨(some 7), .mov (.t 5), [], none⟩⟩,
   ⟨true, ⟨(some 8), .faddr 0 (.t 1), [], none⟩⟩,
   ⟨true, ⟨(some 9), .load none (.t 8), [1], none⟩⟩,
   ⟨true, ⟨(some 10), .bin .leq (.t 7) (.t 9), [0, 2], none⟩⟩] [] 896)
 (.cond (.t 10)
  .skip
  (.exit 0)))
 (.seq (.block 1 (.region [⟨true, ⟨(some 13), .faddr 0 (.t 1), [], none⟩⟩,
   ⟨true, ⟨(some 14), .load none (.t 13), [0], none⟩⟩,
   ⟨true, ⟨(some 15), .mov (.t 5), [], none⟩⟩,
   ⟨true, ⟨(some 16), .mkfn 60 [] [(.t 4), (.t 1), (.t 3)], [], none⟩⟩,
   ⟨true, ⟨(some 17), .call .heap (.f 59) [(.t 14), (.t 15), (.t 16)], [1, 2, 3], none⟩⟩] [] 254976))
 (.region [⟨true, ⟨(some 11), .mov (.t 5), [], none⟩⟩,
   ⟨true, ⟨(some 12), .bin .add (.t 11) (.c (.int .i64 (.ofNat 1))), [0], none⟩⟩,
   ⟨false, ⟨(some 5), .mov (.t 12), [1, 0, 1], none⟩⟩] [] 6144))))))
 (.seq (.region [⟨true, ⟨(some 18), .load none (.t 3), [], none⟩⟩,
   ⟨true, ⟨(some 2), .mov (.t 18), [0, 0], none⟩⟩] [] 262202)
 .ret)))))⟩

-- overseer/invariant.check
def f45 : FFn := ⟨36, [.tmp 4],
 (.seq (.region [⟨true, ⟨(some 2), .box .dyn (.t 0), [], none⟩⟩,
   ⟨true, ⟨(some 4), .mov (.c (.int .i64 (.ofNat 0))), [], none⟩⟩] [] 17)
 (.seq (.region [⟨true, ⟨(some 11), .load (some 2) (.t 2), [], none⟩⟩,
   ⟨true, ⟨(some 12), .call .heap (.f 39) [(.t 11), (.c (.int .i64 (.ofNat 1)))], [0], none⟩⟩,
   ⟨true, ⟨(some 10), .mov (.t 12), [1], none⟩⟩,
   ⟨true, ⟨(some 13), .extract 0 (.t 10), [2], none⟩⟩,
   ⟨true, ⟨(some 14), .extract 1 (.t 10), [2], none⟩⟩,
   ⟨true, ⟨(some 5), .alloc .dyn (.agg [(.int .i64 (.ofNat 0)), .nilsl]), [], none⟩⟩,
   ⟨false, ⟨none, .store 2 (.t 5) (.t 13), [5, 3, 1, 0, 1, 2, 3, 5], none⟩⟩,
   ⟨true, ⟨(some 6), .mov (.t 14), [4, 6, 0, 1, 2, 3, 4, 5, 6], none⟩⟩] [] 31748)
 (.seq (.seq (.region [⟨true, ⟨(some 15), .mov (.t 6), [], none⟩⟩,
   ⟨true, ⟨(some 16), .bin .neq (.t 15) (.c (.int .i64 (.ofNat 0))), [0], none⟩⟩] [] 32768)
 (.cond (.t 16)
  (.seq (.region [⟨true, ⟨(some 17), .mov (.t 6), [], none⟩⟩,
    ⟨true, ⟨(some 4), .mov (.t 17), [0, 0], none⟩⟩] [] 196706)
  .ret)
  .skip))
 (.seq (.seq (.region [⟨true, ⟨(some 18), .mov (.t 1), [], none⟩⟩,
   ⟨true, ⟨(some 19), .len 1 (.t 18), [0], none⟩⟩,
   ⟨true, ⟨(some 20), .mov (.c (.int .i64 (.ofNat 0))), [], none⟩⟩] [] 65618)
 (.block 0 (.loop (.seq (.region [⟨true, ⟨(some 21), .bin .lss (.t 20) (.t 19), [], none⟩⟩] [] 0)
 (.seq (.cond (.t 21)
  .skip
  (.exit 0))
 (.seq (.block 1 (.seq (.region [⟨true, ⟨(some 22), .iaddr none 1 (.t 18) (.t 20), [], none⟩⟩,
   ⟨true, ⟨(some 23), .load none (.t 22), [0], none⟩⟩,
   ⟨true, ⟨(some 8), .mov (.t 23), [1, 0, 1], none⟩⟩] [] 14680064)
 (.seq (.seq (.region [⟨true, ⟨(some 24), .mov (.t 8), [], none⟩⟩,
   ⟨true, ⟨(some 25), .faddr 0 (.t 5), [], none⟩⟩,
   ⟨true, ⟨(some 26), .load none (.t 25), [1], none⟩⟩,
   ⟨true, ⟨(some 27), .call .heap (.f 47) [(.t 24), (.t 26)], [0, 2], none⟩⟩,
   ⟨true, ⟨(some 9), .mov (.t 27), [3, 3, 0, 1, 2, 3], none⟩⟩] [] 251658240)
 (.seq (.region [⟨true, ⟨(some 28), .mov (.t 9), [], none⟩⟩,
   ⟨true, ⟨(some 29), .bin .neq (.t 28) (.c (.int .i64 (.ofNat 0))), [0], none⟩⟩] [] 268435456)
 (.cond (.t 29)
  (.seq (.region [⟨true, ⟨(some 30), .mov (.t 9), [], none⟩⟩,
    ⟨true, ⟨(some 4), .mov (.t 30), [0, 0], none⟩⟩] [] 1612448544)
  .ret)
  .skip)))
 (.seq (.region [⟨true, ⟨(some 31), .load (some 2) (.t 5), [], none⟩⟩,
   ⟨true, ⟨(some 32), .mov (.t 8), [], none⟩⟩,
   ⟨true, ⟨(some 33), .call .heap (.f 49) [(.t 31), (.t 32)], [0, 1], none⟩⟩,
   ⟨true, ⟨(some 34), .un .not (.t 33), [2], none⟩⟩] [] 15569257232)
 (.cond (.t 34)
  (.seq (.region [⟨true, ⟨(some 4), .mov (.c (.int .i64 (.ofNat 6))), [], none⟩⟩] [] 17181704224)
  .ret)
  .skip)))))
 (.region [⟨true, ⟨(some 35), .bin .add (.t 20) (.c (.int .i64 (.ofNat 1))), [], none⟩⟩,
   ⟨false, ⟨(some 20), .mov (.t 35), [0], none⟩⟩] [] 51539607568)))))))
 (.seq (.region [⟨true, ⟨(some 4), .mov (.c (.int .i64 (.ofNat 0))), [], none⟩⟩] [] 1835040)
 .ret)))))⟩

-- overseer/invariant.value
def f46 : FFn := ⟨25, [.tmp 4],
 (.seq (.region [⟨true, ⟨(some 4), .mov (.c (.int .i64 (.ofNat 0))), [], none⟩⟩] [] 16)
 (.seq (.region [⟨true, ⟨(some 5), .mov (.c (.int .i64 (.ofNat 0))), [], none⟩⟩] [] 0)
 (.seq (.seq (.region [⟨true, ⟨(some 8), .mov (.t 0), [], none⟩⟩,
   ⟨true, ⟨(some 9), .len 1 (.t 8), [0], none⟩⟩,
   ⟨true, ⟨(some 10), .mov (.c (.int .i64 (.ofNat 0))), [], none⟩⟩] [] 1)
 (.block 0 (.loop (.seq (.region [⟨true, ⟨(some 11), .bin .lss (.t 10) (.t 9), [], none⟩⟩] [] 0)
 (.seq (.cond (.t 11)
  .skip
  (.exit 0))
 (.seq (.block 1 (.seq (.region [⟨true, ⟨(some 12), .mov (.t 10), [], none⟩⟩,
   ⟨true, ⟨(some 13), .iaddr none 1 (.t 8) (.t 10), [], none⟩⟩,
   ⟨true, ⟨(some 14), .load none (.t 13), [1], none⟩⟩,
   ⟨true, ⟨(some 6), .mov (.t 12), [0, 0, 1, 2], none⟩⟩,
   ⟨true, ⟨(some 7), .mov (.t 14), [2, 3, 0, 1, 2, 3], none⟩⟩] [] 30720)
 (.region [⟨true, ⟨(some 15), .mov (.t 5), [], none⟩⟩,
   ⟨true, ⟨(some 16), .mov (.t 7), [], none⟩⟩,
   ⟨true, ⟨(some 17), .mov (.t 1), [], none⟩⟩,
   ⟨true, ⟨(some 18), .mov (.t 6), [], none⟩⟩,
   ⟨true, ⟨(some 19), .iaddr none 1 (.t 17) (.t 18), [2, 3], none⟩⟩,
   ⟨true, ⟨(some 20), .load none (.t 19), [4], none⟩⟩,
   ⟨true, ⟨(some 21), .bin .mul (.t 16) (.t 20), [1, 5], none⟩⟩,
   ⟨true, ⟨(some 22), .bin .add (.t 15) (.t 21), [0, 6], none⟩⟩,
   ⟨false, ⟨(some 5), .mov (.t 22), [7, 0, 1, 2, 3, 4, 5, 6, 7], none⟩⟩] [] 8356032)))
 (.region [⟨true, ⟨(some 23), .bin .add (.t 10) (.c (.int .i64 (.ofNat 1))), [], none⟩⟩,
   ⟨false, ⟨(some 10), .mov (.t 23), [0], none⟩⟩] [] 8388608)))))))
 (.seq (.region [⟨true, ⟨(some 24), .mov (.t 5), [], none⟩⟩,
   ⟨true, ⟨(some 4), .mov (.t 24), [0, 0], none⟩⟩] [] 16779042)
 .ret))))⟩

-- overseer/invariant.weigh
def f47 : FFn := ⟨11, [.tmp 4],
 (.seq (.region [⟨true, ⟨(some 4), .mov (.c (.int .i64 (.ofNat 0))), [], none⟩⟩] [] 16)
 (.seq (.seq (.region [⟨true, ⟨(some 5), .mov (.t 0), [], none⟩⟩,
   ⟨true, ⟨(some 6), .len 1 (.t 5), [0], none⟩⟩,
   ⟨true, ⟨(some 7), .mov (.t 1), [], none⟩⟩,
   ⟨true, ⟨(some 8), .bin .neq (.t 6) (.t 7), [1, 2], none⟩⟩] [] 226)
 (.cond (.t 8)
  (.seq (.region [⟨true, ⟨(some 4), .mov (.c (.int .i64 (.ofNat 4))), [], none⟩⟩] [] 257)
  .ret)
  .skip))
 (.seq (.region [⟨true, ⟨(some 9), .mov (.t 0), [], none⟩⟩,
   ⟨true, ⟨(some 10), .call .heap (.f 50) [(.t 9)], [0], none⟩⟩,
   ⟨false, ⟨(some 4), .mov (.t 10), [1, 1, 0, 1], none⟩⟩] [] 1793)
 .ret)))⟩

-- overseer/net.Incidence
def f48 : FFn := ⟨85, [.tmp 2, .tmp 3],
 (.seq (.region [⟨true, ⟨(some 1), .box .dyn (.t 0), [], none⟩⟩,
   ⟨true, ⟨(some 2), .mov (.c .nilsl), [], none⟩⟩,
   ⟨true, ⟨(some 3), .mov (.c (.int .i64 (.ofNat 0))), [1], none⟩⟩] [] 13)
 (.seq (.seq (.region [⟨true, ⟨(some 13), .load (some 2) (.t 1), [], none⟩⟩,
   ⟨true, ⟨(some 14), .call .heap (.f 37) [(.t 13)], [0], none⟩⟩,
   ⟨true, ⟨(some 4), .mov (.t 14), [1, 1, 0, 1], none⟩⟩] [] 24576)
 (.seq (.region [⟨true, ⟨(some 15), .mov (.t 4), [], none⟩⟩,
   ⟨true, ⟨(some 16), .bin .neq (.t 15) (.c (.int .i64 (.ofNat 0))), [0], none⟩⟩] [] 32768)
 (.cond (.t 16)
  (.seq (.region [⟨true, ⟨(some 17), .mov (.t 4), [], none⟩⟩,
    ⟨true, ⟨(some 2), .mov (.c .nilsl), [], none⟩⟩,
    ⟨true, ⟨(some 3), .mov (.t 17), [0, 1, 0, 1], none⟩⟩] [] 196626)
  .ret)
  .skip)))
 (.seq (.region [⟨true, ⟨(some 18), .faddr 0 (.t 1), [], none⟩⟩,
   ⟨true, ⟨(some 19), .load none (.t 18), [0], none⟩⟩,
   ⟨true, ⟨(some 20), .len 1 (.t 19), [1], none⟩⟩,
   ⟨true, ⟨(some 21), .mkslice .dyn 1 24 [.nilsl] (.t 20) (.t 20), [2, 2], none⟩⟩,
   ⟨true, ⟨(some 5), .mov (.t 21), [3, 0, 1, 2, 3], none⟩⟩] [] 3997724)
 (.seq (.seq (.region [⟨true, ⟨(some 22), .mov (.t 5), [], none⟩⟩,
   ⟨true, ⟨(some 23), .len 1 (.t 22), [0], none⟩⟩,
   ⟨true, ⟨(some 24), .mov (.c (.int .i64 (.ofNat 0))), [], none⟩⟩] [] 4194304)
 (.block 0 (.loop (.seq (.region [⟨true, ⟨(some 25), .bin .lss (.t 24) (.t 23), [], none⟩⟩] [] 0)
 (.seq (.cond (.t 25)
  .skip
  (.exit 0))
 (.seq (.block 1 (.seq (.region [⟨true, ⟨(some 26), .mov (.t 24), [], none⟩⟩,
   ⟨true, ⟨(some 6), .mov (.t 26), [0, 0], none⟩⟩] [] 100663296)
 (.region [⟨true, ⟨(some 27), .mov (.t 5), [], none⟩⟩,
   ⟨true, ⟨(some 28), .mov (.t 6), [], none⟩⟩,
   ⟨true, ⟨(some 29), .faddr 1 (.t 1), [], none⟩⟩,
   ⟨true, ⟨(some 30), .load none (.t 29), [2], none⟩⟩,
   ⟨true, ⟨(some 31), .len 1 (.t 30), [3], none⟩⟩,
   ⟨true, ⟨(some 32), .mkslice .dyn 1 8 [(.int .i64 (.ofNat 0))] (.t 31) (.t 31), [4, 4], none⟩⟩,
   ⟨true, ⟨(some 33), .iaddr none 1 (.t 27) (.t 28), [0, 1, 0, 1, 2, 3, 4, 5], none⟩⟩,
   ⟨false, ⟨none, .store 1 (.t 33) (.t 32), [6, 5, 0, 1, 2, 3, 4, 5], none⟩⟩] [] 17045651520)))
 (.region [⟨true, ⟨(some 34), .bin .add (.t 24) (.c (.int .i64 (.ofNat 1))), [], none⟩⟩,
   ⟨false, ⟨(some 24), .mov (.t 34), [0], none⟩⟩] [] 17179869184)))))))
 (.seq (.seq (.region [⟨true, ⟨(some 35), .faddr 1 (.t 1), [], none⟩⟩,
   ⟨true, ⟨(some 36), .load none (.t 35), [0], none⟩⟩,
   ⟨true, ⟨(some 37), .len 1 (.t 36), [1], none⟩⟩,
   ⟨true, ⟨(some 38), .mov (.c (.int .i64 (.ofNat 0))), [], none⟩⟩] [] 34384904194)
 (.block 2 (.loop (.seq (.region [⟨true, ⟨(some 39), .bin .lss (.t 38) (.t 37), [], none⟩⟩] [] 0)
 (.seq (.cond (.t 39)
  .skip
  (.exit 2))
 (.seq (.block 3 (.seq (.region [⟨true, ⟨(some 40), .mov (.t 38), [], none⟩⟩,
   ⟨true, ⟨(some 41), .iaddr none 3 (.t 36) (.t 38), [], none⟩⟩,
   ⟨true, ⟨(some 42), .load (some 3) (.t 41), [1], none⟩⟩,
   ⟨true, ⟨(some 8), .alloc .dyn (.agg [(.int .i64 (.ofNat 0)), .nilsl, .nilsl]), [], none⟩⟩,
   ⟨true, ⟨(some 7), .mov (.t 40), [0, 0, 1, 2, 3], none⟩⟩,
   ⟨false, ⟨none, .store 3 (.t 8) (.t 42), [3, 2, 4, 0, 1, 2, 3, 4], none⟩⟩] [] 8246337208320)
 (.seq (.seq (.region [⟨true, ⟨(some 43), .faddr 1 (.t 8), [], none⟩⟩,
   ⟨true, ⟨(some 44), .load none (.t 43), [0], none⟩⟩,
   ⟨true, ⟨(some 45), .len 1 (.t 44), [1], none⟩⟩,
   ⟨true, ⟨(some 46), .mov (.c (.int .i64 (.ofNat 0))), [], none⟩⟩] [] 8796093022208)
 (.block 4 (.loop (.seq (.region [⟨true, ⟨(some 47), .bin .lss (.t 46) (.t 45), [], none⟩⟩] [] 0)
 (.seq (.cond (.t 47)
  .skip
  (.exit 4))
 (.seq (.block 5 (.seq (.region [⟨true, ⟨(some 48), .iaddr none 2 (.t 44) (.t 46), [], none⟩⟩,
   ⟨true, ⟨(some 49), .load (some 2) (.t 48), [0], none⟩⟩,
   ⟨true, ⟨(some 10), .alloc .dyn (.agg [(.int .i64 (.ofNat 0)), (.int .i64 (.ofNat 0))]), [], none⟩⟩,
   ⟨false, ⟨none, .store 2 (.t 10) (.t 49), [2, 1, 0, 1, 2], none⟩⟩] [] 985162418487296)
 (.region [⟨true, ⟨(some 50), .mov (.t 5), [], none⟩⟩,
   ⟨true, ⟨(some 51), .faddr 0 (.t 10), [], none⟩⟩,
   ⟨true, ⟨(some 52), .load none (.t 51), [1], none⟩⟩,
   ⟨true, ⟨(some 53), .iaddr none 1 (.t 50) (.t 52), [0, 2], none⟩⟩,
   ⟨true, ⟨(some 54), .load none (.t 53), [3], none⟩⟩,
   ⟨true, ⟨(some 55), .mov (.t 7), [], none⟩⟩,
   ⟨true, ⟨(some 56), .iaddr none 1 (.t 54) (.t 55), [4, 5], none⟩⟩,
   ⟨true, ⟨(some 57), .load none (.t 56), [6], none⟩⟩,
   ⟨true, ⟨(some 58), .faddr 1 (.t 10), [], none⟩⟩,
   ⟨true, ⟨(some 59), .load none (.t 58), [8], none⟩⟩,
   ⟨true, ⟨(some 60), .bin .sub (.t 57) (.t 59), [7, 9], none⟩⟩,
   ⟨true, ⟨(some 61), .iaddr none 1 (.t 54) (.t 55), [4, 5, 0, 1, 2, 3, 4, 5, 6, 7, 8, 9, 10], none⟩⟩,
   ⟨false, ⟨none, .store 1 (.t 61) (.t 60), [11, 10, 0, 1, 2, 3, 4, 5, 6, 7, 8, 9, 10], none⟩⟩] [] 4610560118520546304)))
 (.region [⟨true, ⟨(some 62), .bin .add (.t 46) (.c (.int .i64 (.ofNat 1))), [], none⟩⟩,
   ⟨false, ⟨(some 46), .mov (.t 62), [0], none⟩⟩] [] 4611686018427387904)))))))
 (.seq (.region [⟨true, ⟨(some 63), .faddr 2 (.t 8), [], none⟩⟩,
   ⟨true, ⟨(some 64), .load none (.t 63), [0], none⟩⟩,
   ⟨true, ⟨(some 65), .len 1 (.t 64), [1], none⟩⟩,
   ⟨true, ⟨(some 66), .mov (.c (.int .i64 (.ofNat 0))), [], none⟩⟩] [] 9223495182157086976)
 (.block 6 (.loop (.seq (.region [⟨true, ⟨(some 67), .bin .lss (.t 66) (.t 65), [], none⟩⟩] [] 0)
 (.seq (.cond (.t 67)
  .skip
  (.exit 6))
 (.seq (.block 7 (.seq (.region [⟨true, ⟨(some 68), .iaddr none 2 (.t 64) (.t 66), [], none⟩⟩,
   ⟨true, ⟨(some 69), .load (some 2) (.t 68), [0], none⟩⟩,
   ⟨true, ⟨(some 12), .alloc .dyn (.agg [(.int .i64 (.ofNat 0)), (.int .i64 (.ofNat 0))]), [], none⟩⟩,
   ⟨false, ⟨none, .store 2 (.t 12) (.t 69), [2, 1, 0, 1, 2], none⟩⟩] [] 1033017668127734890496)
 (.region [⟨true, ⟨(some 70), .mov (.t 5), [], none⟩⟩,
   ⟨true, ⟨(some 71), .faddr 0 (.t 12), [], none⟩⟩,
   ⟨true, ⟨(some 72), .load none (.t 71), [1], none⟩⟩,
   ⟨true, ⟨(some 73), .iaddr none 1 (.t 70) (.t 72), [0, 2], none⟩⟩,
   ⟨true, ⟨(some 74), .load none (.t 73), [3], none⟩⟩,
   ⟨true, ⟨(some 75), .mov (.t 7), [], none⟩⟩,
   ⟨true, ⟨(some 76), .iaddr none 1 (.t 74) (.t 75), [4, 5], none⟩⟩,
   ⟨true, ⟨(some 77), .load none (.t 76), [6], none⟩⟩,
   ⟨true, ⟨(some 78), .faddr 1 (.t 12), [], none⟩⟩,
   ⟨true, ⟨(some 79), .load none (.t 78), [8], none⟩⟩,
   ⟨true, ⟨(some 80), .bin .add (.t 77) (.t 79), [7, 9], none⟩⟩,
   ⟨true, ⟨(some 81), .iaddr none 1 (.t 74) (.t 75), [4, 5, 0, 1, 2, 3, 4, 5, 6, 7, 8, 9, 10], none⟩⟩,
   ⟨false, ⟨none, .store 1 (.t 81) (.t 80), [11, 10, 0, 1, 2, 3, 4, 5, 6, 7, 8, 9, 10], none⟩⟩] [] 4834522686837799287525376)))
 (.region [⟨true, ⟨(some 82), .bin .add (.t 66) (.c (.int .i64 (.ofNat 1))), [], none⟩⟩,
   ⟨false, ⟨(some 66), .mov (.t 82), [0], none⟩⟩] [] 4835703278458516698824704))))))))))
 (.region [⟨true, ⟨(some 83), .bin .add (.t 38) (.c (.int .i64 (.ofNat 1))), [], none⟩⟩,
   ⟨false, ⟨(some 38), .mov (.t 83), [0], none⟩⟩] [] 9671535684125549364510848)))))))
 (.seq (.region [⟨true, ⟨(some 84), .mov (.t 5), [], none⟩⟩,
   ⟨true, ⟨(some 2), .mov (.t 84), [0, 0], none⟩⟩,
   ⟨true, ⟨(some 3), .mov (.c (.int .i64 (.ofNat 0))), [1, 0, 1], none⟩⟩] [] 19342813113834547831636000)
 .ret))))))⟩

-- (overseer/invariant.table).flows
def f49 : FFn := ⟨39, [.tmp 4],
 (.seq (.region [⟨true, ⟨(some 2), .box .dyn (.t 0), [], none⟩⟩,
   ⟨true, ⟨(some 4), .mov (.c (.bool false)), [], none⟩⟩] [] 17)
 (.seq (.seq (.region [⟨true, ⟨(some 10), .faddr 1 (.t 2), [], none⟩⟩,
   ⟨true, ⟨(some 11), .load none (.t 10), [0], none⟩⟩,
   ⟨true, ⟨(some 12), .len 1 (.t 11), [1], none⟩⟩,
   ⟨true, ⟨(some 13), .mov (.c (.int .i64 (.ofNat 0))), [], none⟩⟩] [] 1028)
 (.block 0 (.loop (.seq (.region [⟨true, ⟨(some 14), .bin .lss (.t 13) (.t 12), [], none⟩⟩] [] 0)
 (.seq (.cond (.t 14)
  .skip
  (.exit 0))
 (.seq (.block 1 (.seq (.region [⟨true, ⟨(some 15), .iaddr none 10 (.t 11) (.t 13), [], none⟩⟩,
   ⟨true, ⟨(some 16), .load (some 10) (.t 15), [0], none⟩⟩,
   ⟨true, ⟨(some 6), .alloc .dyn (.agg [(.int .i64 (.ofNat 0)), (.int .i64 (.ofNat 0)), (.int .i64 (.ofNat 0)), (.int .i64 (.ofNat 0)), (.int .i64 (.ofNat 0)), (.int .i64 (.ofNat 0)), (.int .i64 (.ofNat 0)), (.int .i64 (.ofNat 0)), (.int .i64 (.ofNat 0)), (.int .i64 (.ofNat 0))]), [], none⟩⟩,
   ⟨false, ⟨none, .store 10 (.t 6) (.t 16), [2, 1, 0, 1, 2], none⟩⟩] [] 114688)
 (.seq (.region [⟨true, ⟨(some 7), .mov (.c (.int .i64 (.ofNat 0))), [], none⟩⟩] [] 0)
 (.seq (.seq (.region [⟨true, ⟨(some 17), .mov (.t 1), [], none⟩⟩,
   ⟨true, ⟨(some 18), .len 1 (.t 17), [0], none⟩⟩,
   ⟨true, ⟨(some 19), .mov (.c (.int .i64 (.ofNat 0))), [], none⟩⟩] [] 0)
 (.block 2 (.loop (.seq (.region [⟨true, ⟨(some 20), .bin .lss (.t 19) (.t 18), [], none⟩⟩] [] 0)
 (.seq (.cond (.t 20)
  .skip
  (.exit 2))
 (.seq (.block 3 (.seq (.region [⟨true, ⟨(some 21), .mov (.t 19), [], none⟩⟩,
   ⟨true, ⟨(some 22), .iaddr none 1 (.t 17) (.t 19), [], none⟩⟩,
   ⟨true, ⟨(some 23), .load none (.t 22), [1], none⟩⟩,
   ⟨true, ⟨(some 8), .mov (.t 21), [0, 0, 1, 2], none⟩⟩,
   ⟨true, ⟨(some 9), .mov (.t 23), [2, 3, 0, 1, 2, 3], none⟩⟩] [] 15728640)
 (.region [⟨true, ⟨(some 24), .mov (.t 7), [], none⟩⟩,
   ⟨true, ⟨(some 25), .mov (.t 8), [], none⟩⟩,
   ⟨true, ⟨(some 26), .iaddr (some 10) 1 (.t 6) (.t 25), [1], none⟩⟩,
   ⟨true, ⟨(some 27), .load none (.t 26), [2], none⟩⟩,
   ⟨true, ⟨(some 28), .mov (.t 9), [], none⟩⟩,
   ⟨true, ⟨(some 29), .bin .mul (.t 27) (.t 28), [3, 4], none⟩⟩,
   ⟨true, ⟨(some 30), .bin .add (.t 24) (.t 29), [0, 5], none⟩⟩,
   ⟨false, ⟨(some 7), .mov (.t 30), [6, 0, 1, 2, 3, 4, 5, 6], none⟩⟩] [] 2130707200)))
 (.region [⟨true, ⟨(some 31), .bin .add (.t 19) (.c (.int .i64 (.ofNat 1))), [], none⟩⟩,
   ⟨false, ⟨(some 19), .mov (.t 31), [0], none⟩⟩] [] 2147483648)))))))
 (.seq (.region [⟨true, ⟨(some 32), .mov (.t 7), [], none⟩⟩,
   ⟨true, ⟨(some 33), .bin .neq (.t 32) (.c (.int .i64 (.ofNat 0))), [0], none⟩⟩] [] 4295884992)
 (.cond (.t 33)
  (.seq (.region [⟨true, ⟨(some 4), .mov (.c (.bool false)), [], none⟩⟩] [] 8589948930)
  .ret)
  .skip))))))
 (.region [⟨true, ⟨(some 34), .bin .add (.t 13) (.c (.int .i64 (.ofNat 1))), [], none⟩⟩,
   ⟨false, ⟨(some 13), .mov (.t 34), [0], none⟩⟩] [] 25769803792)))))))
 (.seq (.region [⟨true, ⟨(some 35), .mov (.t 1), [], none⟩⟩,
   ⟨true, ⟨(some 36), .call .heap (.f 30) [(.t 35)], [0], none⟩⟩,
   ⟨true, ⟨(some 37), .len 1 (.t 36), [1], none⟩⟩,
   ⟨true, ⟨(some 38), .bin .gtr (.t 37) (.c (.int .i64 (.ofNat 0))), [2], none⟩⟩,
   ⟨true, ⟨(some 4), .mov (.t 38), [3, 1, 0, 1, 2, 3], none⟩⟩] [] 515396089858)
 .ret)))⟩

-- overseer/invariant.within
def f50 : FFn := ⟨5, [.tmp 2],
 (.seq (.region [⟨true, ⟨(some 2), .mov (.c (.int .i64 (.ofNat 0))), [], none⟩⟩] [] 4)
 (.seq (.seq (.region [⟨true, ⟨(some 3), .mov (.t 0), [], none⟩⟩,
   ⟨true, ⟨(some 4), .call .heap (.f 66) [(.t 3), (.f 67)], [0], none⟩⟩] [] 9)
 (.cond (.t 4)
  (.seq (.region [⟨true, ⟨(some 2), .mov (.c (.int .i64 (.ofNat 2))), [], none⟩⟩] [] 16)
  .ret)
  .skip))
 (.seq (.region [⟨false, ⟨(some 2), .mov (.c (.int .i64 (.ofNat 0))), [], none⟩⟩] [] 16)
 .ret)))⟩

-- overseer/net.tokens
def f57 : FFn := ⟨6, [.tmp 2],
 (.seq (.region [⟨true, ⟨(some 2), .mov (.c (.bool false)), [], none⟩⟩] [] 4)
 (.seq (.region [⟨true, ⟨(some 3), .mov (.t 0), [], none⟩⟩,
   ⟨true, ⟨(some 4), .call .heap (.f 66) [(.t 3), (.f 69)], [0], none⟩⟩,
   ⟨true, ⟨(some 5), .un .not (.t 4), [1], none⟩⟩,
   ⟨true, ⟨(some 2), .mov (.t 5), [2, 1, 0, 1, 2], none⟩⟩] [] 57)
 .ret))⟩

-- overseer/net.checkArcs
def f58 : FFn := ⟨48, [.tmp 4],
 (.seq (.region [⟨true, ⟨(some 4), .mov (.c (.int .i64 (.ofNat 0))), [], none⟩⟩] [] 16)
 (.seq (.seq (.region [⟨true, ⟨(some 7), .mov (.t 0), [], none⟩⟩,
   ⟨true, ⟨(some 8), .len 1 (.t 7), [0], none⟩⟩,
   ⟨true, ⟨(some 9), .mov (.c (.int .i64 (.ofNat 0))), [], none⟩⟩] [] 0)
 (.block 0 (.loop (.seq (.region [⟨true, ⟨(some 10), .bin .lss (.t 9) (.t 8), [], none⟩⟩] [] 0)
 (.seq (.cond (.t 10)
  .skip
  (.exit 0))
 (.seq (.block 1 (.seq (.region [⟨true, ⟨(some 11), .mov (.t 9), [], none⟩⟩,
   ⟨true, ⟨(some 12), .iaddr none 2 (.t 7) (.t 9), [], none⟩⟩,
   ⟨true, ⟨(some 13), .load (some 2) (.t 12), [1], none⟩⟩,
   ⟨true, ⟨(some 6), .alloc .dyn (.agg [(.int .i64 (.ofNat 0)), (.int .i64 (.ofNat 0))]), [], none⟩⟩,
   ⟨true, ⟨(some 5), .mov (.t 11), [0, 0, 1, 2, 3], none⟩⟩,
   ⟨false, ⟨none, .store 2 (.t 6) (.t 13), [3, 2, 4, 0, 1, 2, 3, 4], none⟩⟩] [] 15360)
 (.block 2 (.seq (.region [⟨true, ⟨(some 15), .faddr 0 (.t 6), [], none⟩⟩,
   ⟨true, ⟨(some 16), .load none (.t 15), [0], none⟩⟩,
   ⟨true, ⟨(some 17), .bin .lss (.t 16) (.c (.int .i64 (.ofNat 0))), [1], none⟩⟩,
   ⟨true, ⟨(some 18), .mov (.t 17), [2], none⟩⟩,
   ⟨false, ⟨(some 19), .faddr 0 (.t 6), [3], (some (18, false))⟩⟩,
   ⟨false, ⟨(some 20), .load none (.t 19), [4, 3], (some (18, false))⟩⟩,
   ⟨false, ⟨(some 21), .mov (.t 1), [3], (some (18, false))⟩⟩,
   ⟨false, ⟨(some 22), .bin .geq (.t 20) (.t 21), [5, 6, 3], (some (18, false))⟩⟩,
   ⟨true, ⟨(some 23), .pick (.t 18) (.c (.bool true)) (.t 22), [3, 7], none⟩⟩,
   ⟨true, ⟨(some 14), .mov (.t 23), [8, 3], none⟩⟩] [] 8880128)
 (.cond (.t 14)
  (.seq (.region [⟨true, ⟨(some 4), .mov (.c (.int .i64 (.ofNat 2))), [], none⟩⟩] [] 61709829555171)
  .ret)
  (.seq (.region [⟨true, ⟨(some 25), .mov (.t 5), [], none⟩⟩,
    ⟨true, ⟨(some 26), .bin .gtr (.t 25) (.c (.int .i64 (.ofNat 0))), [0], none⟩⟩,
    ⟨true, ⟨(some 27), .mov (.t 26), [1], none⟩⟩,
    ⟨false, ⟨(some 28), .faddr 0 (.t 6), [2], (some (27, true))⟩⟩,
    ⟨false, ⟨(some 29), .load none (.t 28), [3, 2], (some (27, true))⟩⟩,
    ⟨false, ⟨(some 30), .mov (.t 0), [2], (some (27, true))⟩⟩,
    ⟨false, ⟨(some 31), .mov (.t 5), [2], (some (27, true))⟩⟩,
    ⟨false, ⟨(some 32), .bin .sub (.t 31) (.c (.int .i64 (.ofNat 1))), [6, 2], (some (27, true))⟩⟩,
    ⟨false, ⟨(some 33), .iaddr none 2 (.t 30) (.t 32), [5, 7, 2], (some (27, true))⟩⟩,
    ⟨false, ⟨(some 34), .faddr 0 (.t 33), [8, 2], (some (27, true))⟩⟩,
    ⟨false, ⟨(some 35), .load none (.t 34), [9, 2], (some (27, true))⟩⟩,
    ⟨false, ⟨(some 36), .bin .leq (.t 29) (.t 35), [4, 10, 2], (some (27, true))⟩⟩,
    ⟨true, ⟨(some 37), .pick (.t 27) (.t 36) (.c (.bool false)), [2, 11], none⟩⟩,
    ⟨true, ⟨(some 24), .mov (.t 37), [12, 2], none⟩⟩] [] 137673850912)
  (.cond (.t 24)
   (.seq (.region [⟨true, ⟨(some 4), .mov (.c (.int .i64 (.ofNat 5))), [], none⟩⟩] [] 61709846315971)
   .ret)
   (.seq (.region [⟨true, ⟨(some 39), .faddr 1 (.t 6), [], none⟩⟩,
     ⟨true, ⟨(some 40), .load none (.t 39), [0], none⟩⟩,
     ⟨true, ⟨(some 41), .bin .lss (.t 40) (.c (.int .i64 (.ofNat 1))), [1], none⟩⟩,
     ⟨true, ⟨(some 42), .mov (.t 41), [2], none⟩⟩,
     ⟨false, ⟨(some 43), .faddr 1 (.t 6), [3], (some (42, false))⟩⟩,
     ⟨false, ⟨(some 44), .load none (.t 43), [4, 3], (some (42, false))⟩⟩,
     ⟨false, ⟨(some 45), .bin .gtr (.t 44) (.c (.int .i64 (.ofNat 8))), [5, 3], (some (42, false))⟩⟩,
     ⟨true, ⟨(some 46), .pick (.t 42) (.c (.bool true)) (.t 45), [3, 6], none⟩⟩,
     ⟨true, ⟨(some 38), .mov (.t 46), [7, 3], none⟩⟩] [] 78615098163264)
   (.cond (.t 38)
    (.seq (.region [⟨true, ⟨(some 4), .mov (.c (.int .i64 (.ofNat 2))), [], none⟩⟩] [] 61984707445635)
    .ret)
    .skip)))))))))
 (.region [⟨true, ⟨(some 47), .bin .add (.t 9) (.c (.int .i64 (.ofNat 1))), [], none⟩⟩,
   ⟨false, ⟨(some 9), .mov (.t 47), [0], none⟩⟩] [] 141012366262288)))))))
 (.seq (.region [⟨true, ⟨(some 4), .mov (.c (.int .i64 (.ofNat 0))), [], none⟩⟩] [] 61709829538691)
 .ret)))⟩

-- overseer/invariant.choose
def f59 : FFn := ⟨70, [],
 (.seq (.region [⟨true, ⟨(some 10), .mov (.t 1), [], none⟩⟩,
   ⟨true, ⟨(some 11), .mkslice .dyn 1 8 [(.int .i64 (.ofNat 0))] (.t 10) (.t 10), [0, 0], none⟩⟩,
   ⟨true, ⟨(some 6), .mov (.t 11), [1, 0, 1], none⟩⟩] [] 3072)
 (.seq (.seq (.region [⟨true, ⟨(some 12), .mov (.t 6), [], none⟩⟩,
   ⟨true, ⟨(some 13), .len 1 (.t 12), [0], none⟩⟩,
   ⟨true, ⟨(some 14), .mov (.c (.int .i64 (.ofNat 0))), [], none⟩⟩] [] 4096)
 (.block 0 (.loop (.seq (.region [⟨true, ⟨(some 15), .bin .lss (.t 14) (.t 13), [], none⟩⟩] [] 0)
 (.seq (.cond (.t 15)
  .skip
  (.exit 0))
 (.seq (.block 1 (.seq (.region [⟨true, ⟨(some 16), .mov (.t 14), [], none⟩⟩,
   ⟨true, ⟨(some 7), .mov (.t 16), [0, 0], none⟩⟩] [] 98304)
 (.region [⟨true, ⟨(some 17), .mov (.t 6), [], none⟩⟩,
   ⟨true, ⟨(some 18), .mov (.t 7), [], none⟩⟩,
   ⟨true, ⟨(some 19), .mov (.t 7), [], none⟩⟩,
   ⟨true, ⟨(some 20), .iaddr none 1 (.t 17) (.t 18), [0, 1, 0, 1, 2], none⟩⟩,
   ⟨false, ⟨none, .store 1 (.t 20) (.t 19), [3, 2, 0, 1, 2], none⟩⟩] [] 1966208)))
 (.region [⟨true, ⟨(some 21), .bin .add (.t 14) (.c (.int .i64 (.ofNat 1))), [], none⟩⟩,
   ⟨false, ⟨(some 14), .mov (.t 21), [0], none⟩⟩] [] 2097152)))))))
 (.block 2 (.loop (.seq (.seq (.region [⟨true, ⟨(some 22), .mov (.t 1), [], none⟩⟩,
   ⟨true, ⟨(some 23), .mov (.t 0), [], none⟩⟩,
   ⟨true, ⟨(some 24), .bin .leq (.t 22) (.t 23), [0, 1], none⟩⟩] [] 12607488)
 (.cond (.t 24)
  .skip
  (.exit 2)))
 (.block 3 (.seq (.region [⟨true, ⟨(some 25), .mov (.t 2), [], none⟩⟩,
   ⟨true, ⟨(some 26), .mov (.t 6), [], none⟩⟩,
   ⟨true, ⟨(some 27), .call .heap (.t 25) [(.t 26)], [0, 1], none⟩⟩] [] 251658240)
 (.seq (.region [⟨true, ⟨(some 28), .mov (.t 1), [], none⟩⟩,
   ⟨true, ⟨(some 29), .bin .sub (.t 28) (.c (.int .i64 (.ofNat 1))), [0], none⟩⟩,
   ⟨true, ⟨(some 8), .mov (.t 29), [1, 0, 1], none⟩⟩] [] 805306368)
 (.seq (.block 4 (.loop (.seq (.seq (.region [⟨true, ⟨(some 30), .mov (.t 8), [], none⟩⟩,
   ⟨true, ⟨(some 31), .bin .geq (.t 30) (.c (.int .i64 (.ofNat 0))), [0], none⟩⟩,
   ⟨true, ⟨(some 32), .mov (.t 31), [1], none⟩⟩,
   ⟨false, ⟨(some 33), .mov (.t 6), [2], (some (32, true))⟩⟩,
   ⟨false, ⟨(some 34), .mov (.t 8), [2], (some (32, true))⟩⟩,
   ⟨false, ⟨(some 35), .iaddr none 1 (.t 33) (.t 34), [3, 4, 2], (some (32, true))⟩⟩,
   ⟨false, ⟨(some 36), .load none (.t 35), [5, 2], (some (32, true))⟩⟩,
   ⟨false, ⟨(some 37), .mov (.t 0), [2], (some (32, true))⟩⟩,
   ⟨false, ⟨(some 38), .mov (.t 1), [2], (some (32, true))⟩⟩,
   ⟨false, ⟨(some 39), .bin .sub (.t 37) (.t 38), [7, 8, 2], (some (32, true))⟩⟩,
   ⟨false, ⟨(some 40), .mov (.t 8), [2], (some (32, true))⟩⟩,
   ⟨false, ⟨(some 41), .bin .add (.t 39) (.t 40), [9, 10, 2], (some (32, true))⟩⟩,
   ⟨false, ⟨(some 42), .bin .eql (.t 36) (.t 41), [6, 11, 2], (some (32, true))⟩⟩,
   ⟨true, ⟨(some 43), .pick (.t 32) (.t 42) (.c (.bool false)), [2, 12], none⟩⟩] [] 7516192768)
 (.cond (.t 43)
  .skip
  (.exit 4)))
 (.block 5 (.region [⟨true, ⟨(some 44), .mov (.t 8), [], none⟩⟩,
   ⟨true, ⟨(some 45), .bin .sub (.t 44) (.c (.int .i64 (.ofNat 1))), [0], none⟩⟩,
   ⟨false, ⟨(some 8), .mov (.t 45), [1, 0, 1], none⟩⟩] [] 61572651155456)))))
 (.seq (.seq (.region [⟨true, ⟨(some 46), .mov (.t 8), [], none⟩⟩,
   ⟨true, ⟨(some 47), .bin .lss (.t 46) (.c (.int .i64 (.ofNat 0))), [0], none⟩⟩] [] 70368744177664)
 (.cond (.t 47)
  .ret
  .skip))
 (.seq (.region [⟨true, ⟨(some 48), .mov (.t 6), [], none⟩⟩,
   ⟨true, ⟨(some 49), .mov (.t 8), [], none⟩⟩,
   ⟨true, ⟨(some 50), .iaddr none 1 (.t 48) (.t 49), [0, 1], none⟩⟩,
   ⟨true, ⟨(some 51), .load none (.t 50), [2], none⟩⟩,
   ⟨true, ⟨(some 52), .bin .add (.t 51) (.c (.int .i64 (.ofNat 1))), [3], none⟩⟩,
   ⟨true, ⟨(some 53), .iaddr none 1 (.t 48) (.t 49), [0, 1, 0, 1, 2, 3, 4], none⟩⟩,
   ⟨false, ⟨none, .store 1 (.t 53) (.t 52), [5, 4, 0, 1, 2, 3, 4], none⟩⟩] [] 17873661021126656)
 (.seq (.region [⟨true, ⟨(some 54), .mov (.t 8), [], none⟩⟩,
   ⟨true, ⟨(some 55), .bin .add (.t 54) (.c (.int .i64 (.ofNat 1))), [0], none⟩⟩,
   ⟨true, ⟨(some 9), .mov (.t 55), [1, 0, 1], none⟩⟩] [] 54043195528446208)
 (.block 6 (.loop (.seq (.seq (.region [⟨true, ⟨(some 56), .mov (.t 9), [], none⟩⟩,
   ⟨true, ⟨(some 57), .mov (.t 1), [], none⟩⟩,
   ⟨true, ⟨(some 58), .bin .lss (.t 56) (.t 57), [0, 1], none⟩⟩] [] 216172782113783808)
 (.cond (.t 58)
  .skip
  (.exit 6)))
 (.seq (.block 7 (.region [⟨true, ⟨(some 61), .mov (.t 6), [], none⟩⟩,
   ⟨true, ⟨(some 62), .mov (.t 9), [], none⟩⟩,
   ⟨true, ⟨(some 63), .mov (.t 6), [], none⟩⟩,
   ⟨true, ⟨(some 64), .mov (.t 9), [], none⟩⟩,
   ⟨true, ⟨(some 65), .bin .sub (.t 64) (.c (.int .i64 (.ofNat 1))), [3], none⟩⟩,
   ⟨true, ⟨(some 66), .iaddr none 1 (.t 63) (.t 65), [2, 4], none⟩⟩,
   ⟨true, ⟨(some 67), .load none (.t 66), [5], none⟩⟩,
   ⟨true, ⟨(some 68), .bin .add (.t 67) (.c (.int .i64 (.ofNat 1))), [6], none⟩⟩,
   ⟨true, ⟨(some 69), .iaddr none 1 (.t 61) (.t 62), [0, 1, 0, 1, 2, 3, 4, 5, 6, 7], none⟩⟩,
   ⟨false, ⟨none, .store 1 (.t 69) (.t 68), [8, 7, 0, 1, 2, 3, 4, 5, 6, 7], none⟩⟩] [] 1178574008084349321216))
 (.region [⟨true, ⟨(some 59), .mov (.t 9), [], none⟩⟩,
   ⟨true, ⟨(some 60), .bin .add (.t 59) (.c (.int .i64 (.ofNat 1))), [0], none⟩⟩,
   ⟨false, ⟨(some 9), .mov (.t 60), [1, 0, 1], none⟩⟩] [] 1729382256910270464)))))))))))))))))⟩

-- (overseer/invariant.table).minimal$1
def f60 : FFn := ⟨71, [],
 (.seq (.region [⟨true, ⟨(some 5), .mov (.c (.int .u16 (.ofNat 0))), [], none⟩⟩] [] 0)
 (.seq (.seq (.region [⟨true, ⟨(some 14), .mov (.t 0), [], none⟩⟩,
   ⟨true, ⟨(some 15), .len 1 (.t 14), [0], none⟩⟩,
   ⟨true, ⟨(some 16), .mov (.c (.int .i64 (.ofNat 0))), [], none⟩⟩] [] 0)
 (.block 0 (.loop (.seq (.region [⟨true, ⟨(some 17), .bin .lss (.t 16) (.t 15), [], none⟩⟩] [] 0)
 (.seq (.cond (.t 17)
  .skip
  (.exit 0))
 (.seq (.block 1 (.seq (.region [⟨true, ⟨(some 18), .iaddr none 1 (.t 14) (.t 16), [], none⟩⟩,
   ⟨true, ⟨(some 19), .load none (.t 18), [0], none⟩⟩,
   ⟨true, ⟨(some 7), .mov (.t 19), [1, 0, 1], none⟩⟩] [] 917504)
 (.region [⟨true, ⟨(some 20), .mov (.t 5), [], none⟩⟩,
   ⟨true, ⟨(some 21), .mov (.t 7), [], none⟩⟩,
   ⟨true, ⟨(some 22), .bin .shl (.c (.int .u16 (.ofNat 1))) (.t 21), [1], none⟩⟩,
   ⟨true, ⟨(some 23), .bin .or (.t 20) (.t 22), [0, 2], none⟩⟩,
   ⟨false, ⟨(some 5), .mov (.t 23), [3, 0, 1, 2, 3], none⟩⟩] [] 15728768)))
 (.region [⟨true, ⟨(some 24), .bin .add (.t 16) (.c (.int .i64 (.ofNat 1))), [], none⟩⟩,
   ⟨false, ⟨(some 16), .mov (.t 24), [0], none⟩⟩] [] 16777216)))))))
 (.seq (.mloop [⟨true, ⟨(some 25), .load none (.t 1), [], none⟩⟩] (.t 25) 26 27 28 29 2 3 [⟨true, ⟨(some 30), .extract 0 (.t 29), [0], none⟩⟩, ⟨true, ⟨(some 8), .mov (.t 30), [1, 0, 1], none⟩⟩]
  (.seq (.region [⟨true, ⟨(some 31), .mov (.t 8), [], none⟩⟩,
    ⟨true, ⟨(some 32), .mov (.t 5), [], none⟩⟩,
    ⟨true, ⟨(some 33), .bin .and (.t 31) (.t 32), [0, 1], none⟩⟩,
    ⟨true, ⟨(some 34), .mov (.t 8), [], none⟩⟩,
    ⟨true, ⟨(some 35), .bin .eql (.t 33) (.t 34), [2, 3], none⟩⟩] [] 34259190016)
  (.cond (.t 35)
   .ret
   .skip)))
 (.seq (.region [⟨true, ⟨(some 37), .load (some 2) (.t 2), [], none⟩⟩,
   ⟨true, ⟨(some 38), .mov (.t 0), [], none⟩⟩,
   ⟨true, ⟨(some 39), .call .heap (.f 61) [(.t 37), (.t 38)], [0, 1], none⟩⟩,
   ⟨true, ⟨(some 36), .mov (.t 39), [2], none⟩⟩,
   ⟨true, ⟨(some 40), .extract 0 (.t 36), [3], none⟩⟩,
   ⟨true, ⟨(some 41), .extract 1 (.t 36), [3], none⟩⟩,
   ⟨true, ⟨(some 9), .mov (.t 40), [4, 2, 0, 1, 2, 3, 4], none⟩⟩,
   ⟨true, ⟨(some 10), .mov (.t 41), [5, 6, 0, 1, 2, 3, 4, 5, 6], none⟩⟩] [] 4365800816900)
 (.seq (.seq (.region [⟨true, ⟨(some 42), .mov (.t 10), [], none⟩⟩,
   ⟨true, ⟨(some 43), .un .not (.t 42), [0], none⟩⟩,
   ⟨true, ⟨(some 44), .mov (.t 43), [1], none⟩⟩,
   ⟨false, ⟨(some 45), .mov (.t 9), [2], (some (44, false))⟩⟩,
   ⟨false, ⟨(some 46), .call .heap (.f 62) [(.t 45), (.f 63)], [3, 2, 2], (some (44, false))⟩⟩,
   ⟨true, ⟨(some 47), .pick (.t 44) (.c (.bool true)) (.t 46), [2, 4], none⟩⟩] [] 136339441845248)
 (.cond (.t 47)
  .ret
  .skip))
 (.seq (.region [⟨true, ⟨(some 48), .mov (.t 5), [], none⟩⟩,
   ⟨true, ⟨(some 49), .build [(.int .u16 (.ofNat 0)), (.int .i64 (.ofNat 0)), (.int .i64 (.ofNat 0)), (.int .i64 (.ofNat 0)), (.int .i64 (.ofNat 0)), (.int .i64 (.ofNat 0)), (.int .i64 (.ofNat 0)), (.int .i64 (.ofNat 0)), (.int .i64 (.ofNat 0)), (.int .i64 (.ofNat 0)), (.int .i64 (.ofNat 0))] [(0, 1, (.t 48))], [0], none⟩⟩,
   ⟨true, ⟨(some 11), .alloc .dyn (.agg [(.int .u16 (.ofNat 0)), (.int .i64 (.ofNat 0)), (.int .i64 (.ofNat 0)), (.int .i64 (.ofNat 0)), (.int .i64 (.ofNat 0)), (.int .i64 (.ofNat 0)), (.int .i64 (.ofNat 0)), (.int .i64 (.ofNat 0)), (.int .i64 (.ofNat 0)), (.int .i64 (.ofNat 0)), (.int .i64 (.ofNat 0))]), [], none⟩⟩,
   ⟨false, ⟨none, .store 11 (.t 11) (.t 49), [2, 1, 0, 1, 2], none⟩⟩] [] 985162418487296)
 (.seq (.seq (.region [⟨true, ⟨(some 50), .mov (.t 0), [], none⟩⟩,
   ⟨true, ⟨(some 51), .len 1 (.t 50), [0], none⟩⟩,
   ⟨true, ⟨(some 52), .mov (.c (.int .i64 (.ofNat 0))), [], none⟩⟩] [] 1)
 (.block 4 (.loop (.seq (.region [⟨true, ⟨(some 53), .bin .lss (.t 52) (.t 51), [], none⟩⟩] [] 0)
 (.seq (.cond (.t 53)
  .skip
  (.exit 4))
 (.seq (.block 5 (.seq (.region [⟨true, ⟨(some 54), .mov (.t 52), [], none⟩⟩,
   ⟨true, ⟨(some 55), .iaddr none 1 (.t 50) (.t 52), [], none⟩⟩,
   ⟨true, ⟨(some 56), .load none (.t 55), [1], none⟩⟩,
   ⟨true, ⟨(some 12), .mov (.t 54), [0, 0, 1, 2], none⟩⟩,
   ⟨true, ⟨(some 13), .mov (.t 56), [2, 3, 0, 1, 2, 3], none⟩⟩] [] 135107988821114880)
 (.region [⟨true, ⟨(some 57), .mov (.t 13), [], none⟩⟩,
   ⟨true, ⟨(some 58), .mov (.t 9), [], none⟩⟩,
   ⟨true, ⟨(some 59), .mov (.t 12), [], none⟩⟩,
   ⟨true, ⟨(some 60), .iaddr none 1 (.t 58) (.t 59), [1, 2], none⟩⟩,
   ⟨true, ⟨(some 61), .load none (.t 60), [3], none⟩⟩,
   ⟨true, ⟨(some 62), .faddr 1 (.t 11), [], none⟩⟩,
   ⟨true, ⟨(some 63), .iaddr (some 10) 1 (.t 62) (.t 57), [5, 0, 0, 1, 2, 3, 4], none⟩⟩,
   ⟨false, ⟨none, .store 1 (.t 63) (.t 61), [6, 4, 0, 1, 2, 3, 4], none⟩⟩] [] 18302628885633708032)))
 (.region [⟨true, ⟨(some 64), .bin .add (.t 52) (.c (.int .i64 (.ofNat 1))), [], none⟩⟩,
   ⟨false, ⟨(some 52), .mov (.t 64), [0], none⟩⟩] [] 18446744073709551616)))))))
 (.seq (.region [⟨true, ⟨(some 65), .load none (.t 1), [], none⟩⟩,
   ⟨true, ⟨(some 66), .mov (.t 5), [], none⟩⟩,
   ⟨false, ⟨none, .mupd false [.i] (.t 65) (.t 66) (.c (.bool true)), [0, 1, 0, 1], none⟩⟩] [] 110688345741605208610)
 (.region [⟨true, ⟨(some 67), .load none (.t 3), [], none⟩⟩,
   ⟨true, ⟨(some 68), .load (some 11) (.t 11), [], none⟩⟩,
   ⟨true, ⟨(some 69), .bslice false .dyn 11 1 [(.int .u16 (.ofNat 0)), (.int .i64 (.ofNat 0)), (.int .i64 (.ofNat 0)), (.int .i64 (.ofNat 0)), (.int .i64 (.ofNat 0)), (.int .i64 (.ofNat 0)), (.int .i64 (.ofNat 0)), (.int .i64 (.ofNat 0)), (.int .i64 (.ofNat 0)), (.int .i64 (.ofNat 0)), (.int .i64 (.ofNat 0))] [(0, 11, (.t 68))], [1], none⟩⟩,
   ⟨true, ⟨(some 70), .append .dyn 11 88 (.t 67) (.t 69), [0, 2], none⟩⟩,
   ⟨false, ⟨none, .store 1 (.t 3) (.t 70), [3, 3, 0, 1, 2, 3], none⟩⟩] [] 2213609288845146195976)))))))))⟩

-- (overseer/invariant.table).kernel
def f61 : FFn := ⟨216, [.tmp 4, .tmp 5],
 (.seq (.region [⟨true, ⟨(some 2), .box .dyn (.t 0), [], none⟩⟩,
   ⟨true, ⟨(some 4), .mov (.c .nilsl), [], none⟩⟩,
   ⟨true, ⟨(some 5), .mov (.c (.bool false)), [1], none⟩⟩] [] 49)
 (.seq (.region [⟨true, ⟨(some 27), .faddr 1 (.t 2), [], none⟩⟩,
   ⟨true, ⟨(some 28), .load none (.t 27), [0], none⟩⟩,
   ⟨true, ⟨(some 29), .len 1 (.t 28), [1], none⟩⟩,
   ⟨true, ⟨(some 30), .mkslice .dyn 10 80 [(.int .i64 (.ofNat 0)), (.int .i64 (.ofNat 0)), (.int .i64 (.ofNat 0)), (.int .i64 (.ofNat 0)), (.int .i64 (.ofNat 0)), (.int .i64 (.ofNat 0)), (.int .i64 (.ofNat 0)), (.int .i64 (.ofNat 0)), (.int .i64 (.ofNat 0)), (.int .i64 (.ofNat 0))] (.c (.int .i64 (.ofNat 0))) (.t 29), [2], none⟩⟩,
   ⟨true, ⟨(some 6), .mov (.t 30), [3, 0, 1, 2, 3], none⟩⟩] [] 2013265920)
 (.seq (.seq (.region [⟨true, ⟨(some 31), .faddr 1 (.t 2), [], none⟩⟩,
   ⟨true, ⟨(some 32), .load none (.t 31), [0], none⟩⟩,
   ⟨true, ⟨(some 33), .len 1 (.t 32), [1], none⟩⟩,
   ⟨true, ⟨(some 34), .mov (.c (.int .i64 (.ofNat 0))), [], none⟩⟩] [] 2147483652)
 (.block 0 (.loop (.seq (.region [⟨true, ⟨(some 35), .bin .lss (.t 34) (.t 33), [], none⟩⟩] [] 0)
 (.seq (.cond (.t 35)
  .skip
  (.exit 0))
 (.seq (.block 1 (.seq (.region [⟨true, ⟨(some 36), .iaddr none 10 (.t 32) (.t 34), [], none⟩⟩,
   ⟨true, ⟨(some 37), .load (some 10) (.t 36), [0], none⟩⟩,
   ⟨true, ⟨(some 8), .alloc .dyn (.agg [(.int .i64 (.ofNat 0)), (.int .i64 (.ofNat 0)), (.int .i64 (.ofNat 0)), (.int .i64 (.ofNat 0)), (.int .i64 (.ofNat 0)), (.int .i64 (.ofNat 0)), (.int .i64 (.ofNat 0)), (.int .i64 (.ofNat 0)), (.int .i64 (.ofNat 0)), (.int .i64 (.ofNat 0))]), [], none⟩⟩,
   ⟨false, ⟨none, .store 10 (.t 8) (.t 37), [2, 1, 0, 1, 2], none⟩⟩] [] 240518168576)
 (.seq (.region [⟨true, ⟨(some 9), .alloc .dyn (.agg [(.int .i64 (.ofNat 0)), (.int .i64 (.ofNat 0)), (.int .i64 (.ofNat 0)), (.int .i64 (.ofNat 0)), (.int .i64 (.ofNat 0)), (.int .i64 (.ofNat 0)), (.int .i64 (.ofNat 0)), (.int .i64 (.ofNat 0)), (.int .i64 (.ofNat 0)), (.int .i64 (.ofNat 0))]), [], none⟩⟩] [] 0)
 (.seq (.seq (.region [⟨true, ⟨(some 38), .mov (.t 1), [], none⟩⟩,
   ⟨true, ⟨(some 39), .len 1 (.t 38), [0], none⟩⟩,
   ⟨true, ⟨(some 40), .mov (.c (.int .i64 (.ofNat 0))), [], none⟩⟩] [] 0)
 (.block 2 (.loop (.seq (.region [⟨true, ⟨(some 41), .bin .lss (.t 40) (.t 39), [], none⟩⟩] [] 0)
 (.seq (.cond (.t 41)
  .skip
  (.exit 2))
 (.seq (.block 3 (.seq (.region [⟨true, ⟨(some 42), .mov (.t 40), [], none⟩⟩,
   ⟨true, ⟨(some 43), .iaddr none 1 (.t 38) (.t 40), [], none⟩⟩,
   ⟨true, ⟨(some 44), .load none (.t 43), [1], none⟩⟩,
   ⟨true, ⟨(some 10), .mov (.t 42), [0, 0, 1, 2], none⟩⟩,
   ⟨true, ⟨(some 11), .mov (.t 44), [2, 3, 0, 1, 2, 3], none⟩⟩] [] 32985348833280)
 (.region [⟨true, ⟨(some 45), .mov (.t 10), [], none⟩⟩,
   ⟨true, ⟨(some 46), .mov (.t 11), [], none⟩⟩,
   ⟨true, ⟨(some 47), .iaddr (some 10) 1 (.t 8) (.t 46), [1], none⟩⟩,
   ⟨true, ⟨(some 48), .load none (.t 47), [2], none⟩⟩,
   ⟨true, ⟨(some 49), .iaddr (some 10) 1 (.t 9) (.t 45), [0, 0, 1, 2, 3], none⟩⟩,
   ⟨false, ⟨none, .store 1 (.t 49) (.t 48), [4, 3, 0, 1, 2, 3], none⟩⟩] [] 1090715534756864)))
 (.region [⟨true, ⟨(some 50), .bin .add (.t 40) (.c (.int .i64 (.ofNat 1))), [], none⟩⟩,
   ⟨false, ⟨(some 40), .mov (.t 50), [0], none⟩⟩] [] 1125899906842624)))))))
 (.seq (.region [⟨true, ⟨(some 51), .load (some 10) (.t 9), [], none⟩⟩,
   ⟨true, ⟨(some 52), .build [(.int .i64 (.ofNat 0)), (.int .i64 (.ofNat 0)), (.int .i64 (.ofNat 0)), (.int .i64 (.ofNat 0)), (.int .i64 (.ofNat 0)), (.int .i64 (.ofNat 0)), (.int .i64 (.ofNat 0)), (.int .i64 (.ofNat 0)), (.int .i64 (.ofNat 0)), (.int .i64 (.ofNat 0))] [], [], none⟩⟩,
   ⟨true, ⟨(some 53), .eq (.flat true [.i, .i, .i, .i, .i, .i, .i, .i, .i, .i]) true (.t 51) (.t 52), [0, 1], none⟩⟩] [] 6757323586404608)
 (.cond (.t 53)
  (.region [⟨true, ⟨(some 54), .mov (.t 6), [], none⟩⟩,
    ⟨true, ⟨(some 55), .load (some 10) (.t 9), [], none⟩⟩,
    ⟨true, ⟨(some 56), .bslice false .dyn 10 1 [(.int .i64 (.ofNat 0)), (.int .i64 (.ofNat 0)), (.int .i64 (.ofNat 0)), (.int .i64 (.ofNat 0)), (.int .i64 (.ofNat 0)), (.int .i64 (.ofNat 0)), (.int .i64 (.ofNat 0)), (.int .i64 (.ofNat 0)), (.int .i64 (.ofNat 0)), (.int .i64 (.ofNat 0))] [(0, 10, (.t 55))], [1], none⟩⟩,
    ⟨true, ⟨(some 57), .append .dyn 10 80 (.t 54) (.t 56), [0, 2], none⟩⟩,
    ⟨false, ⟨(some 6), .mov (.t 57), [3, 3, 0, 1, 2, 3], none⟩⟩] [] 279223176896971264)
  .skip))))))
 (.region [⟨true, ⟨(some 58), .bin .add (.t 34) (.c (.int .i64 (.ofNat 1))), [], none⟩⟩,
   ⟨false, ⟨(some 34), .mov (.t 58), [0], none⟩⟩] [] 297237575406453248)))))))
 (.seq (.region [⟨true, ⟨(some 12), .mov (.c (.int .i64 (.ofNat 0))), [], none⟩⟩] [] 30064771072)
 (.seq (.region [⟨true, ⟨(some 13), .mov (.c (.int .i64 (.ofNat 1))), [], none⟩⟩] [] 0)
 (.seq (.region [⟨true, ⟨(some 14), .mov (.c (.int .i64 (.negSucc 0))), [], none⟩⟩] [] 0)
 (.seq (.region [⟨true, ⟨(some 15), .alloc .dyn (.agg [(.int .i64 (.ofNat 0)), (.int .i64 (.ofNat 0)), (.int .i64 (.ofNat 0)), (.int .i64 (.ofNat 0)), (.int .i64 (.ofNat 0)), (.int .i64 (.ofNat 0)), (.int .i64 (.ofNat 0)), (.int .i64 (.ofNat 0)), (.int .i64 (.ofNat 0)), (.int .i64 (.ofNat 0))]), [], none⟩⟩] [] 0)
 (.seq (.seq (.region [⟨true, ⟨(some 59), .mov (.t 1), [], none⟩⟩,
   ⟨true, ⟨(some 60), .len 1 (.t 59), [0], none⟩⟩,
   ⟨true, ⟨(some 61), .mov (.c (.int .i64 (.ofNat 0))), [], none⟩⟩] [] 576460752303423488)
 (.block 4 (.loop (.seq (.region [⟨true, ⟨(some 62), .bin .lss (.t 61) (.t 60), [], none⟩⟩] [] 0)
 (.seq (.cond (.t 62)
  .skip
  (.exit 4))
 (.seq (.block 5 (.seq (.region [⟨true, ⟨(some 63), .mov (.t 61), [], none⟩⟩,
   ⟨true, ⟨(some 16), .alloc .dyn (.int .i64 (.ofNat 0)), [], none⟩⟩,
   ⟨false, ⟨none, .store 1 (.t 16) (.t 63), [1, 0, 0, 1], none⟩⟩] [] 13835058055282163712)
 (.seq (.region [⟨true, ⟨(some 64), .mov (.t 6), [], none⟩⟩,
   ⟨true, ⟨(some 65), .mov (.t 12), [], none⟩⟩,
   ⟨true, ⟨(some 66), .slice (some 10) (.t 64) (some (.t 65)) none none, [0, 1], none⟩⟩,
   ⟨true, ⟨(some 67), .mkfn 71 [] [(.t 16)], [], none⟩⟩,
   ⟨true, ⟨(some 68), .call .heap (.f 70) [(.t 66), (.t 67)], [2, 3], none⟩⟩,
   ⟨true, ⟨(some 17), .mov (.t 68), [4, 4, 0, 1, 2, 3, 4], none⟩⟩] [] 571849066284996100096)
 (.seq (.seq (.region [⟨true, ⟨(some 69), .mov (.t 17), [], none⟩⟩,
   ⟨true, ⟨(some 70), .bin .lss (.t 69) (.c (.int .i64 (.ofNat 0))), [0], none⟩⟩] [] 590295810358705651712)
 (.cond (.t 70)
  (.seq (.seq (.region [⟨true, ⟨(some 71), .mov (.t 14), [], none⟩⟩,
    ⟨true, ⟨(some 72), .bin .geq (.t 71) (.c (.int .i64 (.ofNat 0))), [0], none⟩⟩] [] 3541774862152234057728)
  (.cond (.t 72)
   (.seq (.region [⟨true, ⟨(some 4), .mov (.c .nilsl), [], none⟩⟩,
     ⟨true, ⟨(some 5), .mov (.c (.bool false)), [0, 0], none⟩⟩] [] 4725825247383465865282)
   .ret)
   .skip))
  (.seq (.region [⟨true, ⟨(some 73), .load none (.t 16), [], none⟩⟩,
    ⟨true, ⟨(some 14), .mov (.t 73), [0, 0], none⟩⟩] [] 14167099448608935706672)
  (.exit 5)))
  .skip))
 (.seq (.region [⟨true, ⟨(some 74), .mov (.t 6), [], none⟩⟩,
   ⟨true, ⟨(some 75), .mov (.t 12), [], none⟩⟩,
   ⟨true, ⟨(some 76), .mov (.t 6), [], none⟩⟩,
   ⟨true, ⟨(some 77), .mov (.t 12), [], none⟩⟩,
   ⟨true, ⟨(some 78), .mov (.t 17), [], none⟩⟩,
   ⟨true, ⟨(some 79), .bin .add (.t 77) (.t 78), [3, 4], none⟩⟩,
   ⟨true, ⟨(some 80), .mov (.t 6), [], none⟩⟩,
   ⟨true, ⟨(some 81), .mov (.t 12), [], none⟩⟩,
   ⟨true, ⟨(some 82), .mov (.t 17), [], none⟩⟩,
   ⟨true, ⟨(some 83), .bin .add (.t 81) (.t 82), [7, 8], none⟩⟩,
   ⟨true, ⟨(some 84), .iaddr none 10 (.t 80) (.t 83), [6, 9], none⟩⟩,
   ⟨true, ⟨(some 85), .load (some 10) (.t 84), [10], none⟩⟩,
   ⟨true, ⟨(some 86), .mov (.t 6), [], none⟩⟩,
   ⟨true, ⟨(some 87), .mov (.t 12), [], none⟩⟩,
   ⟨true, ⟨(some 88), .iaddr none 10 (.t 86) (.t 87), [12, 13], none⟩⟩,
   ⟨true, ⟨(some 89), .load (some 10) (.t 88), [14], none⟩⟩,
   ⟨true, ⟨(some 90), .iaddr none 10 (.t 74) (.t 75), [0, 1, 0, 1, 6, 7, 8, 9, 10, 11, 15], none⟩⟩,
   ⟨false, ⟨none, .store 10 (.t 90) (.t 85), [16, 11, 0, 1, 6, 7, 8, 9, 10, 11, 15], none⟩⟩,
   ⟨true, ⟨(some 91), .iaddr none 10 (.t 76) (.t 79), [2, 5, 0, 1, 2, 3, 4, 5, 6, 7, 8, 9, 10, 11, 12, 13, 14, 15, 16, 17], none⟩⟩,
   ⟨false, ⟨none, .store 10 (.t 91) (.t 89), [18, 15, 17, 0, 1, 2, 3, 4, 5, 6, 7, 8, 9, 10, 11, 12, 13, 14, 15, 16, 17], none⟩⟩] [] 4951742448267210338427076608)
 (.seq (.region [⟨true, ⟨(some 92), .mov (.t 6), [], none⟩⟩,
   ⟨true, ⟨(some 93), .mov (.t 12), [], none⟩⟩,
   ⟨true, ⟨(some 94), .iaddr none 10 (.t 92) (.t 93), [0, 1], none⟩⟩,
   ⟨true, ⟨(some 95), .load (some 10) (.t 94), [2], none⟩⟩,
   ⟨true, ⟨(some 18), .alloc .dyn (.agg [(.int .i64 (.ofNat 0)), (.int .i64 (.ofNat 0)), (.int .i64 (.ofNat 0)), (.int .i64 (.ofNat 0)), (.int .i64 (.ofNat 0)), (.int .i64 (.ofNat 0)), (.int .i64 (.ofNat 0)), (.int .i64 (.ofNat 0)), (.int .i64 (.ofNat 0)), (.int .i64 (.ofNat 0))]), [], none⟩⟩,
   ⟨false, ⟨none, .store 10 (.t 18) (.t 95), [4, 3, 0, 1, 2, 3, 4], none⟩⟩] [] 74276402357122816493947453440)
 (.seq (.seq (.region [⟨true, ⟨(some 96), .mov (.t 6), [], none⟩⟩,
   ⟨true, ⟨(some 97), .len 1 (.t 96), [0], none⟩⟩,
   ⟨true, ⟨(some 98), .mov (.c (.int .i64 (.ofNat 0))), [], none⟩⟩] [] 79228162514264337593543950336)
 (.block 6 (.loop (.seq (.region [⟨true, ⟨(some 99), .bin .lss (.t 98) (.t 97), [], none⟩⟩] [] 0)
 (.seq (.cond (.t 99)
  .skip
  (.exit 6))
 (.seq (.block 7 (.seq (.region [⟨true, ⟨(some 100), .mov (.t 98), [], none⟩⟩,
   ⟨true, ⟨(some 19), .mov (.t 100), [0, 0], none⟩⟩] [] 1901475900342344102245054808064)
 (.seq (.seq (.region [⟨true, ⟨(some 101), .mov (.t 19), [], none⟩⟩,
   ⟨true, ⟨(some 102), .mov (.t 12), [], none⟩⟩,
   ⟨true, ⟨(some 103), .bin .eql (.t 101) (.t 102), [0, 1], none⟩⟩] [] 7605903601369376408980219232256)
 (.cond (.t 103)
  (.exit 7)
  .skip))
 (.seq (.region [⟨true, ⟨(some 104), .mov (.t 6), [], none⟩⟩,
   ⟨true, ⟨(some 105), .mov (.t 19), [], none⟩⟩,
   ⟨true, ⟨(some 106), .load none (.t 16), [], none⟩⟩,
   ⟨true, ⟨(some 107), .iaddr none 10 (.t 104) (.t 105), [0, 1], none⟩⟩,
   ⟨true, ⟨(some 108), .iaddr (some 10) 1 (.t 107) (.t 106), [3, 2], none⟩⟩,
   ⟨true, ⟨(some 109), .load none (.t 108), [4], none⟩⟩,
   ⟨true, ⟨(some 20), .mov (.t 109), [5, 0, 1, 2, 3, 4, 5], none⟩⟩] [] 1287933009831881071920650456662016)
 (.seq (.region [⟨true, ⟨(some 110), .mov (.t 1), [], none⟩⟩,
   ⟨true, ⟨(some 111), .len 1 (.t 110), [0], none⟩⟩,
   ⟨true, ⟨(some 112), .mov (.c (.int .i64 (.ofNat 0))), [], none⟩⟩] [] 1298074214633706907132624082305024)
 (.block 8 (.loop (.seq (.region [⟨true, ⟨(some 113), .bin .lss (.t 112) (.t 111), [], none⟩⟩] [] 0)
 (.seq (.cond (.t 113)
  .skip
  (.exit 8))
 (.seq (.block 9 (.seq (.region [⟨true, ⟨(some 114), .mov (.t 112), [], none⟩⟩,
   ⟨true, ⟨(some 21), .mov (.t 114), [0, 0], none⟩⟩] [] 31153781151208965771182977975320576)
 (.region [⟨true, ⟨(some 115), .mov (.t 6), [], none⟩⟩,
   ⟨true, ⟨(some 116), .mov (.t 19), [], none⟩⟩,
   ⟨true, ⟨(some 117), .mov (.t 21), [], none⟩⟩,
   ⟨true, ⟨(some 118), .load none (.t 16), [], none⟩⟩,
   ⟨true, ⟨(some 119), .iaddr (some 10) 1 (.t 18) (.t 118), [3], none⟩⟩,
   ⟨true, ⟨(some 120), .load none (.t 119), [4], none⟩⟩,
   ⟨true, ⟨(some 121), .mov (.t 6), [], none⟩⟩,
   ⟨true, ⟨(some 122), .mov (.t 19), [], none⟩⟩,
   ⟨true, ⟨(some 123), .mov (.t 21), [], none⟩⟩,
   ⟨true, ⟨(some 124), .iaddr none 10 (.t 121) (.t 122), [6, 7], none⟩⟩,
   ⟨true, ⟨(some 125), .iaddr (some 10) 1 (.t 124) (.t 123), [9, 8], none⟩⟩,
   ⟨true, ⟨(some 126), .load none (.t 125), [10], none⟩⟩,
   ⟨true, ⟨(some 127), .mov (.t 20), [], none⟩⟩,
   ⟨true, ⟨(some 128), .mov (.t 21), [], none⟩⟩,
   ⟨true, ⟨(some 129), .iaddr (some 10) 1 (.t 18) (.t 128), [13], none⟩⟩,
   ⟨true, ⟨(some 130), .load none (.t 129), [14], none⟩⟩,
   ⟨true, ⟨(some 131), .mov (.t 13), [], none⟩⟩,
   ⟨true, ⟨(some 132), .call .heap (.f 72) [(.t 120), (.t 126), (.t 127), (.t 130), (.t 131)], [5, 11, 12, 15, 16], none⟩⟩,
   ⟨true, ⟨(some 133), .iaddr none 10 (.t 115) (.t 116), [0, 1], none⟩⟩,
   ⟨true, ⟨(some 134), .iaddr (some 10) 1 (.t 133) (.t 117), [18, 2, 0, 1, 2, 3, 4, 5, 6, 7, 8, 9, 10, 11, 12, 13, 14, 15, 16, 17], none⟩⟩,
   ⟨false, ⟨none, .store 1 (.t 134) (.t 132), [19, 17, 17, 0, 1, 2, 3, 4, 5, 6, 7, 8, 9, 10, 11, 12, 13, 14, 15, 16, 17], none⟩⟩] [] 43556101427505255044690921507295699402752)))
 (.region [⟨true, ⟨(some 135), .bin .add (.t 112) (.c (.int .i64 (.ofNat 1))), [], none⟩⟩,
   ⟨false, ⟨(some 112), .mov (.t 135), [0], none⟩⟩] [] 43556142965880123323311949751266331066368)))))))))))
 (.region [⟨true, ⟨(some 136), .bin .add (.t 98) (.c (.int .i64 (.ofNat 1))), [], none⟩⟩,
   ⟨false, ⟨(some 98), .mov (.t 136), [0], none⟩⟩] [] 87112293720205534448865342298277157535744)))))))
 (.seq (.region [⟨true, ⟨(some 137), .load none (.t 16), [], none⟩⟩,
   ⟨true, ⟨(some 138), .iaddr (some 10) 1 (.t 18) (.t 137), [0], none⟩⟩,
   ⟨true, ⟨(some 139), .load none (.t 138), [1], none⟩⟩,
   ⟨false, ⟨(some 13), .mov (.t 139), [2, 0, 1, 2], none⟩⟩] [] 1219572003045118822027820179061018533822464)
 (.seq (.region [⟨true, ⟨(some 140), .load none (.t 16), [], none⟩⟩,
   ⟨true, ⟨(some 141), .mov (.t 12), [], none⟩⟩,
   ⟨true, ⟨(some 142), .iaddr (some 10) 1 (.t 15) (.t 140), [0, 0, 1], none⟩⟩,
   ⟨false, ⟨none, .store 1 (.t 142) (.t 141), [2, 1, 0, 1], none⟩⟩] [] 9756576024357147624421876744283658158931968)
 (.region [⟨true, ⟨(some 143), .mov (.t 12), [], none⟩⟩,
   ⟨true, ⟨(some 144), .bin .add (.t 143) (.c (.int .i64 (.ofNat 1))), [0], none⟩⟩,
   ⟨false, ⟨(some 12), .mov (.t 144), [1, 0, 1], none⟩⟩] [] 33451117797795934712303577408972542258970624))))))))))
 (.region [⟨true, ⟨(some 145), .bin .add (.t 61) (.c (.int .i64 (.ofNat 1))), [], none⟩⟩,
   ⟨false, ⟨(some 61), .mov (.t 145), [0], none⟩⟩] [] 44601490397061246283071436545296723011960832)))))))
 (.seq (.seq (.region [⟨true, ⟨(some 146), .mov (.t 14), [], none⟩⟩,
   ⟨true, ⟨(some 147), .bin .lss (.t 146) (.c (.int .i64 (.ofNat 0))), [0], none⟩⟩] [] 89202980794122492566142876549357959844466688)
 (.cond (.t 147)
  (.seq (.region [⟨true, ⟨(some 4), .mov (.c .nilsl), [], none⟩⟩,
    ⟨true, ⟨(some 5), .mov (.c (.bool false)), [0, 0], none⟩⟩] [] 178405961588244985132285746181186892047900738)
  .ret)
  .skip))
 (.seq (.region [⟨true, ⟨(some 148), .mov (.t 1), [], none⟩⟩,
   ⟨true, ⟨(some 149), .len 1 (.t 148), [0], none⟩⟩,
   ⟨true, ⟨(some 150), .mkslice .dyn 1 8 [(.int .i64 (.ofNat 0))] (.t 149) (.t 149), [1, 1], none⟩⟩,
   ⟨true, ⟨(some 22), .mov (.t 150), [2, 0, 1, 2], none⟩⟩] [] 2676089423823674776984286192717803380717649968)
 (.seq (.region [⟨true, ⟨(some 23), .mov (.c (.int .u64 (.ofNat 0))), [], none⟩⟩] [] 0)
 (.seq (.seq (.region [⟨true, ⟨(some 151), .mov (.t 1), [], none⟩⟩,
   ⟨true, ⟨(some 152), .len 1 (.t 151), [0], none⟩⟩,
   ⟨true, ⟨(some 153), .mov (.c (.int .i64 (.ofNat 0))), [], none⟩⟩] [] 2854495385411919762116571938898990272765493250)
 (.block 10 (.loop (.seq (.region [⟨true, ⟨(some 154), .bin .lss (.t 153) (.t 152), [], none⟩⟩] [] 0)
 (.seq (.cond (.t 154)
  .skip
  (.exit 10))
 (.seq (.block 11 (.seq (.region [⟨true, ⟨(some 155), .mov (.t 153), [], none⟩⟩,
   ⟨true, ⟨(some 24), .mov (.t 155), [0, 0], none⟩⟩] [] 68507889249886074290797726533575766546371837952)
 (.seq (.region [⟨true, ⟨(some 156), .mov (.t 22), [], none⟩⟩,
   ⟨true, ⟨(some 157), .mov (.t 24), [], none⟩⟩,
   ⟨true, ⟨(some 158), .mov (.t 13), [], none⟩⟩,
   ⟨true, ⟨(some 159), .iaddr none 1 (.t 156) (.t 157), [0, 1, 0, 1, 2], none⟩⟩,
   ⟨false, ⟨none, .store 1 (.t 159) (.t 158), [3, 2, 0, 1, 2], none⟩⟩] [] 1370157784997721485815954530671515330927436759040)
 (.seq (.seq (.region [⟨true, ⟨(some 160), .mov (.t 24), [], none⟩⟩,
   ⟨true, ⟨(some 161), .mov (.t 14), [], none⟩⟩,
   ⟨true, ⟨(some 162), .bin .neq (.t 160) (.t 161), [0, 1], none⟩⟩] [] 4384504911992708754611054498148849058967797628928)
 (.cond (.t 162)
  (.region [⟨true, ⟨(some 163), .mov (.t 22), [], none⟩⟩,
    ⟨true, ⟨(some 164), .mov (.t 24), [], none⟩⟩,
    ⟨true, ⟨(some 165), .mov (.t 6), [], none⟩⟩,
    ⟨true, ⟨(some 166), .mov (.t 24), [], none⟩⟩,
    ⟨true, ⟨(some 167), .iaddr (some 10) 1 (.t 15) (.t 166), [3], none⟩⟩,
    ⟨true, ⟨(some 168), .load none (.t 167), [4], none⟩⟩,
    ⟨true, ⟨(some 169), .mov (.t 14), [], none⟩⟩,
    ⟨true, ⟨(some 170), .iaddr none 10 (.t 165) (.t 168), [2, 5], none⟩⟩,
    ⟨true, ⟨(some 171), .iaddr (some 10) 1 (.t 170) (.t 169), [7, 6], none⟩⟩,
    ⟨true, ⟨(some 172), .load none (.t 171), [8], none⟩⟩,
    ⟨true, ⟨(some 173), .un .neg (.t 172), [9], none⟩⟩,
    ⟨true, ⟨(some 174), .iaddr none 1 (.t 163) (.t 164), [0, 1, 0, 1, 2, 3, 4, 5, 6, 7, 8, 9, 10], none⟩⟩,
    ⟨false, ⟨none, .store 1 (.t 174) (.t 173), [11, 10, 0, 1, 2, 3, 4, 5, 6, 7, 8, 9, 10], none⟩⟩] [] 47884639645509703212025529859116296856006973838065664)
  .skip))
 (.seq (.seq (.region [⟨true, ⟨(some 175), .mov (.t 22), [], none⟩⟩,
   ⟨true, ⟨(some 176), .mov (.t 24), [], none⟩⟩,
   ⟨true, ⟨(some 177), .iaddr none 1 (.t 175) (.t 176), [0, 1], none⟩⟩,
   ⟨true, ⟨(some 178), .load none (.t 177), [2], none⟩⟩,
   ⟨true, ⟨(some 179), .bin .eql (.t 178) (.c (.int .i64 (.ofNat 0))), [3], none⟩⟩] [] 718363130787434725967147983716038294953362587253735424)
 (.cond (.t 179)
  (.seq (.region [⟨true, ⟨(some 4), .mov (.c .nilsl), [], none⟩⟩,
    ⟨true, ⟨(some 5), .mov (.c (.bool false)), [0, 0], none⟩⟩] [] 766247787559916741650692086274586225203311197714178112)
  .ret)
  .skip))
 (.region [⟨true, ⟨(some 180), .mov (.t 23), [], none⟩⟩,
   ⟨true, ⟨(some 181), .mov (.t 22), [], none⟩⟩,
   ⟨true, ⟨(some 182), .mov (.t 24), [], none⟩⟩,
   ⟨true, ⟨(some 183), .iaddr none 1 (.t 181) (.t 182), [1, 2], none⟩⟩,
   ⟨true, ⟨(some 184), .load none (.t 183), [3], none⟩⟩,
   ⟨true, ⟨(some 185), .call .heap (.f 74) [(.t 184)], [4], none⟩⟩,
   ⟨true, ⟨(some 186), .call .heap (.f 73) [(.t 180), (.t 185)], [0, 5, 5], none⟩⟩,
   ⟨false, ⟨(some 23), .mov (.t 186), [6, 6, 0, 1, 2, 3, 4, 5, 6], none⟩⟩] [] 195393181460400829440689245961664420911389238078426054704))))))
 (.region [⟨true, ⟨(some 187), .bin .add (.t 153) (.c (.int .i64 (.ofNat 1))), [], none⟩⟩,
   ⟨false, ⟨(some 153), .mov (.t 187), [0], none⟩⟩] [] 196159429230833773869868419475239575503198607639501078528)))))))
 (.seq (.region [⟨true, ⟨(some 188), .mov (.t 22), [], none⟩⟩,
   ⟨true, ⟨(some 189), .iaddr none 1 (.t 188) (.c (.int .i64 (.ofNat 0))), [0], none⟩⟩,
   ⟨true, ⟨(some 190), .load none (.t 189), [1], none⟩⟩,
   ⟨true, ⟨(some 191), .bin .lss (.t 190) (.c (.int .i64 (.ofNat 0))), [2], none⟩⟩,
   ⟨true, ⟨(some 25), .mov (.t 191), [3, 0, 1, 2, 3], none⟩⟩] [] 5884782876942140188408524102829886696729352170821625372736)
 (.seq (.seq (.region [⟨true, ⟨(some 192), .mov (.t 22), [], none⟩⟩,
   ⟨true, ⟨(some 193), .len 1 (.t 192), [0], none⟩⟩,
   ⟨true, ⟨(some 194), .mov (.c (.int .i64 (.ofNat 0))), [], none⟩⟩] [] 6277101735386680763835789423207666416102355444464034512896)
 (.block 12 (.loop (.seq (.region [⟨true, ⟨(some 195), .bin .lss (.t 194) (.t 193), [], none⟩⟩] [] 0)
 (.seq (.cond (.t 195)
  .skip
  (.exit 12))
 (.seq (.block 13 (.seq (.region [⟨true, ⟨(some 196), .mov (.t 194), [], none⟩⟩,
   ⟨true, ⟨(some 26), .mov (.t 196), [0, 0], none⟩⟩] [] 150650441649280338332058946156983993986456530667136828309504)
 (.seq (.region [⟨true, ⟨(some 197), .mov (.t 22), [], none⟩⟩,
   ⟨true, ⟨(some 198), .mov (.t 26), [], none⟩⟩,
   ⟨true, ⟨(some 199), .iaddr none 1 (.t 197) (.t 198), [0, 1], none⟩⟩,
   ⟨true, ⟨(some 200), .load none (.t 199), [2], none⟩⟩,
   ⟨true, ⟨(some 201), .mov (.t 23), [], none⟩⟩,
   ⟨true, ⟨(some 202), .conv .i64 (.t 201), [4], none⟩⟩,
   ⟨true, ⟨(some 203), .bin .quo (.t 200) (.t 202), [3, 5], none⟩⟩,
   ⟨true, ⟨(some 204), .iaddr none 1 (.t 197) (.t 198), [0, 1, 0, 1, 2, 3, 4, 5, 6], none⟩⟩,
   ⟨false, ⟨none, .store 1 (.t 204) (.t 203), [7, 6, 0, 1, 2, 3, 4, 5, 6], none⟩⟩] [] 51221150160755315032900041693374557955395220426826521625231360)
 (.seq (.region [⟨true, ⟨(some 205), .mov (.t 25), [], none⟩⟩] [] 0)
 (.cond (.t 205)
  (.region [⟨true, ⟨(some 206), .mov (.t 22), [], none⟩⟩,
    ⟨true, ⟨(some 207), .mov (.t 26), [], none⟩⟩,
    ⟨true, ⟨(some 208), .mov (.t 22), [], none⟩⟩,
    ⟨true, ⟨(some 209), .mov (.t 26), [], none⟩⟩,
    ⟨true, ⟨(some 210), .iaddr none 1 (.t 208) (.t 209), [2, 3], none⟩⟩,
    ⟨true, ⟨(some 211), .load none (.t 210), [4], none⟩⟩,
    ⟨true, ⟨(some 212), .un .neg (.t 211), [5], none⟩⟩,
    ⟨true, ⟨(some 213), .iaddr none 1 (.t 206) (.t 207), [0, 1, 0, 1, 2, 3, 4, 5, 6], none⟩⟩,
    ⟨false, ⟨none, .store 1 (.t 213) (.t 212), [7, 6, 0, 1, 2, 3, 4, 5, 6], none⟩⟩] [] 26276650899723008985662164133962690876443063354336228442915209216)
  .skip)))))
 (.region [⟨true, ⟨(some 214), .bin .add (.t 194) (.c (.int .i64 (.ofNat 1))), [], none⟩⟩,
   ⟨false, ⟨(some 194), .mov (.t 214), [0], none⟩⟩] [] 26379494934555584363296849707872525283004484345938327184374497280)))))))
 (.seq (.region [⟨true, ⟨(some 215), .mov (.t 22), [], none⟩⟩,
   ⟨true, ⟨(some 4), .mov (.t 215), [0, 0], none⟩⟩,
   ⟨true, ⟨(some 5), .mov (.c (.bool true)), [1, 0, 1], none⟩⟩] [] 52656183496889005669043596856571755405446044314407222411408703488)
 .ret)))))))))))))))⟩

-- slices.ContainsFunc[[]int64,int64]
def f62 : FFn := ⟨9, [.tmp 4],
 (.seq (.region [⟨true, ⟨(some 4), .mov (.c (.bool false)), [], none⟩⟩] [] 16)
 (.seq (.region [⟨true, ⟨(some 5), .mov (.t 0), [], none⟩⟩,
   ⟨true, ⟨(some 6), .mov (.t 1), [], none⟩⟩,
   ⟨true, ⟨(some 7), .call .heap (.f 75) [(.t 5), (.t 6)], [0, 1], none⟩⟩,
   ⟨true, ⟨(some 8), .bin .geq (.t 7) (.c (.int .i64 (.ofNat 0))), [2], none⟩⟩,
   ⟨true, ⟨(some 4), .mov (.t 8), [3, 2, 0, 1, 2, 3], none⟩⟩] [] 483)
 .ret))⟩

-- (overseer/invariant.table).minimal$1$1
def f63 : FFn := ⟨5, [.tmp 2],
 (.seq (.region [⟨true, ⟨(some 2), .mov (.c (.bool false)), [], none⟩⟩] [] 4)
 (.seq (.region [⟨true, ⟨(some 3), .mov (.t 0), [], none⟩⟩,
   ⟨true, ⟨(some 4), .bin .lss (.t 3) (.c (.int .i64 (.ofNat 0))), [0], none⟩⟩,
   ⟨true, ⟨(some 2), .mov (.t 4), [1, 0, 1], none⟩⟩] [] 25)
 .ret))⟩

-- slices.ContainsFunc[[]int,int]
def f66 : FFn := ⟨9, [.tmp 4],
 (.seq (.region [⟨true, ⟨(some 4), .mov (.c (.bool false)), [], none⟩⟩] [] 16)
 (.seq (.region [⟨true, ⟨(some 5), .mov (.t 0), [], none⟩⟩,
   ⟨true, ⟨(some 6), .mov (.t 1), [], none⟩⟩,
   ⟨true, ⟨(some 7), .call .heap (.f 76) [(.t 5), (.t 6)], [0, 1], none⟩⟩,
   ⟨true, ⟨(some 8), .bin .geq (.t 7) (.c (.int .i64 (.ofNat 0))), [2], none⟩⟩,
   ⟨true, ⟨(some 4), .mov (.t 8), [3, 2, 0, 1, 2, 3], none⟩⟩] [] 483)
 .ret))⟩

-- overseer/invariant.within$1
def f67 : FFn := ⟨9, [.tmp 2],
 (.seq (.region [⟨true, ⟨(some 2), .mov (.c (.bool false)), [], none⟩⟩] [] 4)
 (.seq (.region [⟨true, ⟨(some 3), .mov (.t 0), [], none⟩⟩,
   ⟨true, ⟨(some 4), .bin .lss (.t 3) (.c (.int .i64 (.ofNat 0))), [0], none⟩⟩,
   ⟨true, ⟨(some 5), .mov (.t 4), [1], none⟩⟩,
   ⟨true, ⟨(some 6), .mov (.t 0), [2], (some (5, false))⟩⟩,
   ⟨true, ⟨(some 7), .bin .gtr (.t 6) (.c (.int .i64 (.ofNat 65536))), [3, 2], (some (5, false))⟩⟩,
   ⟨true, ⟨(some 8), .pick (.t 5) (.c (.bool true)) (.t 7), [2, 4], none⟩⟩,
   ⟨true, ⟨(some 2), .mov (.t 8), [5, 2, 0, 1, 2, 3, 4, 5], none⟩⟩] [] 505)
 .ret))⟩

-- overseer/net.tokens$1
def f69 : FFn := ⟨9, [.tmp 2],
 (.seq (.region [⟨true, ⟨(some 2), .mov (.c (.bool false)), [], none⟩⟩] [] 4)
 (.seq (.region [⟨true, ⟨(some 3), .mov (.t 0), [], none⟩⟩,
   ⟨true, ⟨(some 4), .bin .lss (.t 3) (.c (.int .i64 (.ofNat 0))), [0], none⟩⟩,
   ⟨true, ⟨(some 5), .mov (.t 4), [1], none⟩⟩,
   ⟨true, ⟨(some 6), .mov (.t 0), [2], (some (5, false))⟩⟩,
   ⟨true, ⟨(some 7), .bin .gtr (.t 6) (.c (.int .i64 (.ofNat 65536))), [3, 2], (some (5, false))⟩⟩,
   ⟨true, ⟨(some 8), .pick (.t 5) (.c (.bool true)) (.t 7), [2, 4], none⟩⟩,
   ⟨true, ⟨(some 2), .mov (.t 8), [5, 2, 0, 1, 2, 3, 4, 5], none⟩⟩] [] 505)
 .ret))⟩

-- slices.IndexFunc[[]overseer/invariant.row,overseer/invariant.row]
def f70 : FFn := ⟨19, [.tmp 4],
 (.seq (.region [⟨true, ⟨(some 4), .mov (.c (.int .i64 (.ofNat 0))), [], none⟩⟩] [] 16)
 (.seq (.seq (.region [⟨true, ⟨(some 6), .mov (.t 0), [], none⟩⟩,
   ⟨true, ⟨(some 7), .len 1 (.t 6), [0], none⟩⟩,
   ⟨true, ⟨(some 8), .mov (.c (.int .i64 (.ofNat 0))), [], none⟩⟩] [] 64)
 (.block 0 (.loop (.seq (.region [⟨true, ⟨(some 9), .bin .lss (.t 8) (.t 7), [], none⟩⟩] [] 0)
 (.seq (.cond (.t 9)
  .skip
  (.exit 0))
 (.seq (.block 1 (.seq (.region [⟨true, ⟨(some 10), .mov (.t 8), [], none⟩⟩,
   ⟨true, ⟨(some 5), .mov (.t 10), [0, 0], none⟩⟩] [] 1536)
 (.seq (.region [⟨true, ⟨(some 11), .mov (.t 1), [], none⟩⟩,
   ⟨true, ⟨(some 12), .mov (.t 0), [], none⟩⟩,
   ⟨true, ⟨(some 13), .mov (.t 5), [], none⟩⟩,
   ⟨true, ⟨(some 14), .iaddr none 10 (.t 12) (.t 13), [1, 2], none⟩⟩,
   ⟨true, ⟨(some 15), .load (some 10) (.t 14), [3], none⟩⟩,
   ⟨true, ⟨(some 16), .call .heap (.t 11) [(.t 15)], [0, 4], none⟩⟩] [] 63488)
 (.cond (.t 16)
  (.seq (.region [⟨true, ⟨(some 17), .mov (.t 5), [], none⟩⟩,
    ⟨true, ⟨(some 4), .mov (.t 17), [0, 0], none⟩⟩] [] 197027)
  .ret)
  .skip))))
 (.region [⟨true, ⟨(some 18), .bin .add (.t 8) (.c (.int .i64 (.ofNat 1))), [], none⟩⟩,
   ⟨false, ⟨(some 8), .mov (.t 18), [0], none⟩⟩] [] 327728)))))))
 (.seq (.region [⟨true, ⟨(some 4), .mov (.c (.int .i64 (.negSucc 0))), [], none⟩⟩] [] 387)
 .ret)))⟩

-- (overseer/invariant.table).kernel$1
def f71 : FFn := ⟨8, [.tmp 3],
 (.seq (.region [⟨true, ⟨(some 2), .box .dyn (.t 0), [], none⟩⟩,
   ⟨true, ⟨(some 3), .mov (.c (.bool false)), [], none⟩⟩] [] 9)
 (.seq (.region [⟨true, ⟨(some 4), .load none (.t 1), [], none⟩⟩,
   ⟨true, ⟨(some 5), .iaddr (some 10) 1 (.t 2) (.t 4), [0], none⟩⟩,
   ⟨true, ⟨(some 6), .load none (.t 5), [1], none⟩⟩,
   ⟨true, ⟨(some 7), .bin .neq (.t 6) (.c (.int .i64 (.ofNat 0))), [2], none⟩⟩,
   ⟨true, ⟨(some 3), .mov (.t 7), [3, 0, 1, 2, 3], none⟩⟩] [] 246)
 .ret))⟩

-- overseer/invariant.cross
def f72 : FFn := ⟨100, [.tmp 10],
 (.seq (.region [⟨true, ⟨(some 10), .mov (.c (.int .i64 (.ofNat 0))), [], none⟩⟩] [] 1024)
 (.seq (.region [⟨true, ⟨(some 22), .mov (.t 0), [], none⟩⟩,
   ⟨true, ⟨(some 23), .mov (.t 1), [], none⟩⟩,
   ⟨true, ⟨(some 24), .call .heap (.f 77) [(.t 22), (.t 23)], [0, 1], none⟩⟩,
   ⟨true, ⟨(some 21), .mov (.t 24), [2], none⟩⟩,
   ⟨true, ⟨(some 25), .extract 0 (.t 21), [3], none⟩⟩,
   ⟨true, ⟨(some 26), .extract 1 (.t 21), [3], none⟩⟩,
   ⟨true, ⟨(some 27), .extract 2 (.t 21), [3], none⟩⟩,
   ⟨true, ⟨(some 11), .mov (.t 25), [4, 2, 0, 1, 2, 3, 4], none⟩⟩,
   ⟨true, ⟨(some 12), .mov (.t 26), [5, 7, 0, 1, 2, 3, 4, 5, 7], none⟩⟩,
   ⟨true, ⟨(some 13), .mov (.t 27), [6, 8, 0, 1, 2, 3, 4, 5, 6, 7, 8], none⟩⟩] [] 266338307)
 (.seq (.region [⟨true, ⟨(some 29), .mov (.t 2), [], none⟩⟩,
   ⟨true, ⟨(some 30), .mov (.t 3), [], none⟩⟩,
   ⟨true, ⟨(some 31), .call .heap (.f 77) [(.t 29), (.t 30)], [0, 1], none⟩⟩,
   ⟨true, ⟨(some 28), .mov (.t 31), [2], none⟩⟩,
   ⟨true, ⟨(some 32), .extract 0 (.t 28), [3], none⟩⟩,
   ⟨true, ⟨(some 33), .extract 1 (.t 28), [3], none⟩⟩,
   ⟨true, ⟨(some 34), .extract 2 (.t 28), [3], none⟩⟩,
   ⟨true, ⟨(some 14), .mov (.t 32), [4, 2, 0, 1, 2, 3, 4], none⟩⟩,
   ⟨true, ⟨(some 15), .mov (.t 33), [5, 7, 0, 1, 2, 3, 4, 5, 7], none⟩⟩,
   ⟨true, ⟨(some 16), .mov (.t 34), [6, 8, 0, 1, 2, 3, 4, 5, 6, 7, 8], none⟩⟩] [] 34091302924)
 (.seq (.seq (.region [⟨true, ⟨(some 35), .mov (.t 11), [], none⟩⟩,
   ⟨true, ⟨(some 36), .mov (.t 14), [], none⟩⟩,
   ⟨true, ⟨(some 37), .eq (.flat false [.b]) true (.t 35) (.t 36), [0, 1], none⟩⟩] [] 103079231488)
 (.cond (.t 37)
  (.seq (.region [⟨true, ⟨(some 17), .mov (.c (.int .u64 (.ofNat 0))), [], none⟩⟩] [] 137439084544)
  (.seq (.region [⟨true, ⟨(some 39), .mov (.t 13), [], none⟩⟩,
    ⟨true, ⟨(some 40), .mov (.t 16), [], none⟩⟩,
    ⟨true, ⟨(some 41), .ext 0 78 [(.t 39), (.t 40), (.c (.int .u64 (.ofNat 0)))], [0, 1], none⟩⟩,
    ⟨true, ⟨(some 38), .mov (.t 41), [2], none⟩⟩,
    ⟨true, ⟨(some 42), .extract 0 (.t 38), [3], none⟩⟩,
    ⟨true, ⟨(some 43), .extract 1 (.t 38), [3], none⟩⟩,
    ⟨false, ⟨(some 13), .mov (.t 42), [4, 2, 0, 1, 2, 3, 4], none⟩⟩,
    ⟨true, ⟨(some 17), .mov (.t 43), [5, 6, 0, 1, 2, 3, 4, 5, 6], none⟩⟩] [] 17317308203008)
  (.region [⟨true, ⟨(some 45), .mov (.t 12), [], none⟩⟩,
    ⟨true, ⟨(some 46), .mov (.t 15), [], none⟩⟩,
    ⟨true, ⟨(some 47), .mov (.t 17), [], none⟩⟩,
    ⟨true, ⟨(some 48), .ext 0 78 [(.t 45), (.t 46), (.t 47)], [0, 1, 2], none⟩⟩,
    ⟨true, ⟨(some 44), .mov (.t 48), [3], none⟩⟩,
    ⟨true, ⟨(some 49), .extract 0 (.t 44), [4], none⟩⟩,
    ⟨true, ⟨(some 50), .extract 1 (.t 44), [4], none⟩⟩,
    ⟨false, ⟨(some 12), .mov (.t 49), [5, 3, 0, 1, 2, 3, 4, 5], none⟩⟩] [] 2234207627804672)))
  (.seq (.region [⟨true, ⟨(some 18), .mov (.c (.int .u64 (.ofNat 0))), [], none⟩⟩] [] 137439215616)
  (.seq (.seq (.region [⟨true, ⟨(some 51), .mov (.t 12), [], none⟩⟩,
    ⟨true, ⟨(some 52), .mov (.t 15), [], none⟩⟩,
    ⟨true, ⟨(some 53), .bin .lss (.t 51) (.t 52), [0, 1], none⟩⟩,
    ⟨true, ⟨(some 54), .mov (.t 53), [2], none⟩⟩,
    ⟨true, ⟨(some 55), .mov (.t 12), [3], (some (54, false))⟩⟩,
    ⟨true, ⟨(some 56), .mov (.t 15), [3], (some (54, false))⟩⟩,
    ⟨true, ⟨(some 57), .bin .eql (.t 55) (.t 56), [4, 5, 3], (some (54, false))⟩⟩,
    ⟨true, ⟨(some 58), .mov (.t 57), [6, 3, 3], (some (54, false))⟩⟩,
    ⟨true, ⟨(some 59), .mov (.t 13), [7], (some (58, true))⟩⟩,
    ⟨true, ⟨(some 60), .mov (.t 16), [7], (some (58, true))⟩⟩,
    ⟨true, ⟨(some 61), .bin .lss (.t 59) (.t 60), [8, 9, 7], (some (58, true))⟩⟩,
    ⟨true, ⟨(some 62), .pick (.t 58) (.t 61) (.c (.bool false)), [7, 10, 3], (some (54, false))⟩⟩,
    ⟨true, ⟨(some 63), .pick (.t 54) (.c (.bool true)) (.t 62), [3, 11], none⟩⟩] [] 9221120237041090560)
  (.cond (.t 63)
   (.seq (.region [⟨true, ⟨(some 64), .mov (.t 15), [], none⟩⟩,
     ⟨true, ⟨(some 65), .mov (.t 12), [], none⟩⟩,
     ⟨true, ⟨(some 66), .mov (.t 16), [], none⟩⟩,
     ⟨true, ⟨(some 67), .mov (.t 13), [], none⟩⟩,
     ⟨false, ⟨(some 12), .mov (.t 64), [0, 0, 1, 3], none⟩⟩,
     ⟨false, ⟨(some 15), .mov (.t 65), [1, 4, 0, 1, 3, 4], none⟩⟩,
     ⟨false, ⟨(some 13), .mov (.t 66), [2, 5, 0, 1, 2, 3, 4, 5], none⟩⟩,
     ⟨false, ⟨(some 16), .mov (.t 67), [3, 6, 0, 1, 2, 3, 4, 5, 6], none⟩⟩] [] 285924533142498050048)
   (.region [⟨true, ⟨(some 68), .mov (.t 11), [], none⟩⟩,
     ⟨true, ⟨(some 69), .un .not (.t 68), [0], none⟩⟩,
     ⟨false, ⟨(some 11), .mov (.t 69), [1, 0, 1], none⟩⟩] [] 885443715538058477568))
   .skip))
  (.seq (.region [⟨true, ⟨(some 71), .mov (.t 13), [], none⟩⟩,
    ⟨true, ⟨(some 72), .mov (.t 16), [], none⟩⟩,
    ⟨true, ⟨(some 73), .ext 1 79 [(.t 71), (.t 72), (.c (.int .u64 (.ofNat 0)))], [0, 1], none⟩⟩,
    ⟨true, ⟨(some 70), .mov (.t 73), [2], none⟩⟩,
    ⟨true, ⟨(some 74), .extract 0 (.t 70), [3], none⟩⟩,
    ⟨true, ⟨(some 75), .extract 1 (.t 70), [3], none⟩⟩,
    ⟨false, ⟨(some 13), .mov (.t 74), [4, 2, 0, 1, 2, 3, 4], none⟩⟩,
    ⟨true, ⟨(some 18), .mov (.t 75), [5, 6, 0, 1, 2, 3, 4, 5, 6], none⟩⟩] [] 74386495477233766957056)
  (.region [⟨true, ⟨(some 77), .mov (.t 12), [], none⟩⟩,
    ⟨true, ⟨(some 78), .mov (.t 15), [], none⟩⟩,
    ⟨true, ⟨(some 79), .mov (.t 18), [], none⟩⟩,
    ⟨true, ⟨(some 80), .ext 1 79 [(.t 77), (.t 78), (.t 79)], [0, 1, 2], none⟩⟩,
    ⟨true, ⟨(some 76), .mov (.t 80), [3], none⟩⟩,
    ⟨true, ⟨(some 81), .extract 0 (.t 76), [4], none⟩⟩,
    ⟨true, ⟨(some 82), .extract 1 (.t 76), [4], none⟩⟩,
    ⟨false, ⟨(some 12), .mov (.t 81), [5, 3, 0, 1, 2, 3, 4, 5], none⟩⟩] [] 9595848693191119074525184))))))
 (.seq (.region [⟨true, ⟨(some 84), .mov (.t 12), [], none⟩⟩,
   ⟨true, ⟨(some 85), .mov (.t 13), [], none⟩⟩,
   ⟨true, ⟨(some 86), .mov (.t 4), [], none⟩⟩,
   ⟨true, ⟨(some 87), .call .heap (.f 74) [(.t 86)], [2], none⟩⟩,
   ⟨true, ⟨(some 88), .call .heap (.f 80) [(.t 84), (.t 85), (.t 87)], [0, 1, 3, 3], none⟩⟩,
   ⟨true, ⟨(some 83), .mov (.t 88), [4], none⟩⟩,
   ⟨true, ⟨(some 89), .extract 0 (.t 83), [5], none⟩⟩,
   ⟨true, ⟨(some 90), .extract 1 (.t 83), [5], none⟩⟩,
   ⟨true, ⟨(some 19), .mov (.t 89), [6, 4, 0, 1, 2, 3, 4, 5, 6], none⟩⟩,
   ⟨true, ⟨(some 20), .mov (.t 90), [7, 8, 0, 1, 2, 3, 4, 5, 6, 7, 8], none⟩⟩] [] 2466208672013843516401659904)
 (.seq (.seq (.region [⟨true, ⟨(some 91), .mov (.t 11), [], none⟩⟩,
   ⟨true, ⟨(some 92), .mov (.t 4), [], none⟩⟩,
   ⟨true, ⟨(some 93), .bin .lss (.t 92) (.c (.int .i64 (.ofNat 0))), [1], none⟩⟩,
   ⟨true, ⟨(some 94), .eq (.flat false [.b]) true (.t 91) (.t 93), [0, 2], none⟩⟩] [] 17331160549995323848587741200)
 (.cond (.t 94)
  (.seq (.region [⟨true, ⟨(some 95), .mov (.t 19), [], none⟩⟩,
    ⟨true, ⟨(some 96), .conv .i64 (.t 95), [0], none⟩⟩,
    ⟨true, ⟨(some 97), .un .neg (.t 96), [1], none⟩⟩,
    ⟨true, ⟨(some 10), .mov (.t 97), [2, 0, 1, 2], none⟩⟩] [] 297105609428491265975790338048)
  .ret)
  .skip))
 (.seq (.region [⟨true, ⟨(some 98), .mov (.t 19), [], none⟩⟩,
   ⟨true, ⟨(some 99), .conv .i64 (.t 98), [0], none⟩⟩,
   ⟨false, ⟨(some 10), .mov (.t 99), [1, 0, 1], none⟩⟩] [] 970544990799738135520913915904)
 .ret)))))))⟩

-- overseer/invariant.gcd
def f73 : FFn := ⟨12, [.tmp 4],
 (.seq (.region [⟨true, ⟨(some 4), .mov (.c (.int .u64 (.ofNat 0))), [], none⟩⟩] [] 16)
 (.seq (.block 0 (.loop (.seq (.seq (.region [⟨true, ⟨(some 5), .mov (.t 1), [], none⟩⟩,
   ⟨true, ⟨(some 6), .bin .neq (.t 5) (.c (.int .u64 (.ofNat 0))), [0], none⟩⟩] [] 32)
 (.cond (.t 6)
  .skip
  (.exit 0)))
 (.block 1 (.region [⟨true, ⟨(some 7), .mov (.t 1), [], none⟩⟩,
   ⟨true, ⟨(some 8), .mov (.t 0), [], none⟩⟩,
   ⟨true, ⟨(some 9), .mov (.t 1), [], none⟩⟩,
   ⟨true, ⟨(some 10), .bin .rem (.t 8) (.t 9), [1, 2], none⟩⟩,
   ⟨false, ⟨(some 0), .mov (.t 7), [0, 0, 1], none⟩⟩,
   ⟨false, ⟨(some 1), .mov (.t 10), [3, 4, 0, 1, 2, 3, 4], none⟩⟩] [] 1984)))))
 (.seq (.region [⟨true, ⟨(some 11), .mov (.t 0), [], none⟩⟩,
   ⟨true, ⟨(some 4), .mov (.t 11), [0, 0], none⟩⟩] [] 2051)
 .ret)))⟩

-- overseer/invariant.magnitude
def f74 : FFn := ⟨10, [.tmp 2],
 (.seq (.region [⟨true, ⟨(some 2), .mov (.c (.int .u64 (.ofNat 0))), [], none⟩⟩] [] 4)
 (.seq (.seq (.region [⟨true, ⟨(some 3), .mov (.t 0), [], none⟩⟩,
   ⟨true, ⟨(some 4), .bin .lss (.t 3) (.c (.int .i64 (.ofNat 0))), [0], none⟩⟩] [] 8)
 (.cond (.t 4)
  (.seq (.region [⟨true, ⟨(some 5), .mov (.t 0), [], none⟩⟩,
    ⟨true, ⟨(some 6), .un .neg (.t 5), [0], none⟩⟩,
    ⟨true, ⟨(some 7), .conv .u64 (.t 6), [1], none⟩⟩,
    ⟨true, ⟨(some 2), .mov (.t 7), [2, 0, 1, 2], none⟩⟩] [] 241)
  .ret)
  .skip))
 (.seq (.region [⟨true, ⟨(some 8), .mov (.t 0), [], none⟩⟩,
   ⟨true, ⟨(some 9), .conv .u64 (.t 8), [0], none⟩⟩,
   ⟨false, ⟨(some 2), .mov (.t 9), [1, 0, 1], none⟩⟩] [] 785)
 .ret)))⟩

-- slices.IndexFunc[[]int64,int64]
def f75 : FFn := ⟨19, [.tmp 4],
 (.seq (.region [⟨true, ⟨(some 4), .mov (.c (.int .i64 (.ofNat 0))), [], none⟩⟩] [] 16)
 (.seq (.seq (.region [⟨true, ⟨(some 6), .mov (.t 0), [], none⟩⟩,
   ⟨true, ⟨(some 7), .len 1 (.t 6), [0], none⟩⟩,
   ⟨true, ⟨(some 8), .mov (.c (.int .i64 (.ofNat 0))), [], none⟩⟩] [] 64)
 (.block 0 (.loop (.seq (.region [⟨true, ⟨(some 9), .bin .lss (.t 8) (.t 7), [], none⟩⟩] [] 0)
 (.seq (.cond (.t 9)
  .skip
  (.exit 0))
 (.seq (.block 1 (.seq (.region [⟨true, ⟨(some 10), .mov (.t 8), [], none⟩⟩,
   ⟨true, ⟨(some 5), .mov (.t 10), [0, 0], none⟩⟩] [] 1536)
 (.seq (.region [⟨true, ⟨(some 11), .mov (.t 1), [], none⟩⟩,
   ⟨true, ⟨(some 12), .mov (.t 0), [], none⟩⟩,
   ⟨true, ⟨(some 13), .mov (.t 5), [], none⟩⟩,
   ⟨true, ⟨(some 14), .iaddr none 1 (.t 12) (.t 13), [1, 2], none⟩⟩,
   ⟨true, ⟨(some 15), .load none (.t 14), [3], none⟩⟩,
   ⟨true, ⟨(some 16), .call .heap (.t 11) [(.t 15)], [0, 4], none⟩⟩] [] 63488)
 (.cond (.t 16)
  (.seq (.region [⟨true, ⟨(some 17), .mov (.t 5), [], none⟩⟩,
    ⟨true, ⟨(some 4), .mov (.t 17), [0, 0], none⟩⟩] [] 197027)
  .ret)
  .skip))))
 (.region [⟨true, ⟨(some 18), .bin .add (.t 8) (.c (.int .i64 (.ofNat 1))), [], none⟩⟩,
   ⟨false, ⟨(some 8), .mov (.t 18), [0], none⟩⟩] [] 327728)))))))
 (.seq (.region [⟨true, ⟨(some 4), .mov (.c (.int .i64 (.negSucc 0))), [], none⟩⟩] [] 387)
 .ret)))⟩

-- slices.IndexFunc[[]int,int]
def f76 : FFn := ⟨19, [.tmp 4],
 (.seq (.region [⟨true, ⟨(some 4), .mov (.c (.int .i64 (.ofNat 0))), [], none⟩⟩] [] 16)
 (.seq (.seq (.region [⟨true, ⟨(some 6), .mov (.t 0), [], none⟩⟩,
   ⟨true, ⟨(some 7), .len 1 (.t 6), [0], none⟩⟩,
   ⟨true, ⟨(some 8), .mov (.c (.int .i64 (.ofNat 0))), [], none⟩⟩] [] 64)
 (.block 0 (.loop (.seq (.region [⟨true, ⟨(some 9), .bin .lss (.t 8) (.t 7), [], none⟩⟩] [] 0)
 (.seq (.cond (.t 9)
  .skip
  (.exit 0))
 (.seq (.block 1 (.seq (.region [⟨true, ⟨(some 10), .mov (.t 8), [], none⟩⟩,
   ⟨true, ⟨(some 5), .mov (.t 10), [0, 0], none⟩⟩] [] 1536)
 (.seq (.region [⟨true, ⟨(some 11), .mov (.t 1), [], none⟩⟩,
   ⟨true, ⟨(some 12), .mov (.t 0), [], none⟩⟩,
   ⟨true, ⟨(some 13), .mov (.t 5), [], none⟩⟩,
   ⟨true, ⟨(some 14), .iaddr none 1 (.t 12) (.t 13), [1, 2], none⟩⟩,
   ⟨true, ⟨(some 15), .load none (.t 14), [3], none⟩⟩,
   ⟨true, ⟨(some 16), .call .heap (.t 11) [(.t 15)], [0, 4], none⟩⟩] [] 63488)
 (.cond (.t 16)
  (.seq (.region [⟨true, ⟨(some 17), .mov (.t 5), [], none⟩⟩,
    ⟨true, ⟨(some 4), .mov (.t 17), [0, 0], none⟩⟩] [] 197027)
  .ret)
  .skip))))
 (.region [⟨true, ⟨(some 18), .bin .add (.t 8) (.c (.int .i64 (.ofNat 1))), [], none⟩⟩,
   ⟨false, ⟨(some 8), .mov (.t 18), [0], none⟩⟩] [] 327728)))))))
 (.seq (.region [⟨true, ⟨(some 4), .mov (.c (.int .i64 (.negSucc 0))), [], none⟩⟩] [] 387)
 .ret)))⟩

-- overseer/invariant.product
def f77 : FFn := ⟨22, [.tmp 4, .tmp 5, .tmp 6],
 (.seq (.region [⟨true, ⟨(some 4), .mov (.c (.bool false)), [], none⟩⟩,
   ⟨true, ⟨(some 5), .mov (.c (.int .u64 (.ofNat 0))), [0], none⟩⟩,
   ⟨true, ⟨(some 6), .mov (.c (.int .u64 (.ofNat 0))), [1], none⟩⟩] [] 112)
 (.seq (.region [⟨true, ⟨(some 8), .mov (.t 0), [], none⟩⟩,
   ⟨true, ⟨(some 9), .call .heap (.f 74) [(.t 8)], [0], none⟩⟩,
   ⟨true, ⟨(some 10), .mov (.t 1), [], none⟩⟩,
   ⟨true, ⟨(some 11), .call .heap (.f 74) [(.t 10)], [2, 1], none⟩⟩,
   ⟨true, ⟨(some 12), .call .heap (.f 81) [(.t 9), (.t 11)], [1, 3, 3], none⟩⟩,
   ⟨true, ⟨(some 7), .mov (.t 12), [4], none⟩⟩,
   ⟨true, ⟨(some 13), .extract 0 (.t 7), [5], none⟩⟩,
   ⟨true, ⟨(some 14), .extract 1 (.t 7), [5], none⟩⟩,
   ⟨true, ⟨(some 5), .mov (.t 13), [6, 4, 0, 1, 2, 3, 4, 5, 6], none⟩⟩,
   ⟨true, ⟨(some 6), .mov (.t 14), [7, 8, 0, 1, 2, 3, 4, 5, 6, 7, 8], none⟩⟩] [] 32640)
 (.seq (.region [⟨true, ⟨(some 15), .mov (.t 0), [], none⟩⟩,
   ⟨true, ⟨(some 16), .bin .lss (.t 15) (.c (.int .i64 (.ofNat 0))), [0], none⟩⟩,
   ⟨true, ⟨(some 17), .mov (.t 1), [], none⟩⟩,
   ⟨true, ⟨(some 18), .bin .lss (.t 17) (.c (.int .i64 (.ofNat 0))), [2], none⟩⟩,
   ⟨true, ⟨(some 19), .eq (.flat false [.b]) true (.t 16) (.t 18), [1, 3], none⟩⟩,
   ⟨true, ⟨(some 20), .mov (.t 5), [], none⟩⟩,
   ⟨true, ⟨(some 21), .mov (.t 6), [], none⟩⟩,
   ⟨true, ⟨(some 4), .mov (.t 19), [4, 0, 1, 2, 3, 4], none⟩⟩,
   ⟨false, ⟨(some 5), .mov (.t 20), [5, 7, 0, 1, 2, 3, 4, 5, 7], none⟩⟩,
   ⟨false, ⟨(some 6), .mov (.t 21), [6, 8, 0, 1, 2, 3, 4, 5, 6, 7, 8], none⟩⟩] [] 4161539)
 .ret)))⟩

-- math/bits.Div64
def f80 : FFn := ⟨135, [.tmp 6, .tmp 7],
 (.seq (.region [⟨true, ⟨(some 6), .mov (.c (.int .u64 (.ofNat 0))), [], none⟩⟩,
   ⟨true, ⟨(some 7), .mov (.c (.int .u64 (.ofNat 0))), [0], none⟩⟩] [] 192)
 (.seq (.seq (.region [⟨true, ⟨(some 19), .mov (.t 2), [], none⟩⟩,
   ⟨true, ⟨(some 20), .bin .eql (.t 19) (.c (.int .u64 (.ofNat 0))), [0], none⟩⟩] [] 524288)
 (.cond (.t 20)
  (.region [⟨true, ⟨(some 21), .load none (.g 0), [], none⟩⟩,
    ⟨false, ⟨none, .bad, [0], none⟩⟩] [] 3145728)
  .skip))
 (.seq (.seq (.region [⟨true, ⟨(some 22), .mov (.t 2), [], none⟩⟩,
   ⟨true, ⟨(some 23), .mov (.t 0), [], none⟩⟩,
   ⟨true, ⟨(some 24), .bin .leq (.t 22) (.t 23), [0, 1], none⟩⟩] [] 13631488)
 (.cond (.t 24)
  (.region [⟨true, ⟨(some 25), .load none (.g 1), [], none⟩⟩,
    ⟨false, ⟨none, .bad, [0], none⟩⟩] [] 50331648)
  .skip))
 (.seq (.seq (.region [⟨true, ⟨(some 26), .mov (.t 0), [], none⟩⟩,
   ⟨true, ⟨(some 27), .bin .eql (.t 26) (.c (.int .u64 (.ofNat 0))), [0], none⟩⟩] [] 83886080)
 (.cond (.t 27)
  (.seq (.region [⟨true, ⟨(some 28), .mov (.t 1), [], none⟩⟩,
    ⟨true, ⟨(some 29), .mov (.t 2), [], none⟩⟩,
    ⟨true, ⟨(some 30), .bin .quo (.t 28) (.t 29), [0, 1], none⟩⟩,
    ⟨true, ⟨(some 31), .mov (.t 1), [], none⟩⟩,
    ⟨true, ⟨(some 32), .mov (.t 2), [], none⟩⟩,
    ⟨true, ⟨(some 33), .bin .rem (.t 31) (.t 32), [3, 4], none⟩⟩,
    ⟨true, ⟨(some 6), .mov (.t 30), [2, 0, 1, 2], none⟩⟩,
    ⟨true, ⟨(some 7), .mov (.t 33), [5, 6, 0, 1, 2, 3, 4, 5, 6], none⟩⟩] [] 17045651463)
  .ret)
  .skip))
 (.seq (.region [⟨true, ⟨(some 34), .mov (.t 2), [], none⟩⟩,
   ⟨true, ⟨(some 35), .call .heap (.f 82) [(.t 34)], [0], none⟩⟩,
   ⟨true, ⟨(some 36), .conv .u64 (.t 35), [1], none⟩⟩,
   ⟨true, ⟨(some 8), .mov (.t 36), [2, 1, 0, 1, 2], none⟩⟩] [] 120393302208)
 (.seq (.region [⟨true, ⟨(some 37), .mov (.t 2), [], none⟩⟩,
   ⟨true, ⟨(some 38), .mov (.t 8), [], none⟩⟩,
   ⟨true, ⟨(some 39), .bin .shl (.t 37) (.t 38), [0, 1], none⟩⟩,
   ⟨false, ⟨(some 2), .mov (.t 39), [2, 0, 1, 2], none⟩⟩] [] 962072674304)
 (.seq (.region [⟨true, ⟨(some 40), .mov (.t 2), [], none⟩⟩,
   ⟨true, ⟨(some 41), .bin .shr (.t 40) (.c (.int .u64 (.ofNat 32))), [0], none⟩⟩,
   ⟨true, ⟨(some 9), .mov (.t 41), [1, 0, 1], none⟩⟩] [] 3298534883328)
 (.seq (.region [⟨true, ⟨(some 42), .mov (.t 2), [], none⟩⟩,
   ⟨true, ⟨(some 43), .bin .and (.t 42) (.c (.int .u64 (.ofNat 4294967295))), [0], none⟩⟩,
   ⟨true, ⟨(some 10), .mov (.t 43), [1, 0, 1], none⟩⟩] [] 13194139533312)
 (.seq (.region [⟨true, ⟨(some 44), .mov (.t 0), [], none⟩⟩,
   ⟨true, ⟨(some 45), .mov (.t 8), [], none⟩⟩,
   ⟨true, ⟨(some 46), .bin .shl (.t 44) (.t 45), [0, 1], none⟩⟩,
   ⟨true, ⟨(some 47), .mov (.t 1), [], none⟩⟩,
   ⟨true, ⟨(some 48), .mov (.t 8), [], none⟩⟩,
   ⟨true, ⟨(some 49), .bin .sub (.c (.int .u64 (.ofNat 64))) (.t 48), [4], none⟩⟩,
   ⟨true, ⟨(some 50), .bin .shr (.t 47) (.t 49), [3, 5], none⟩⟩,
   ⟨true, ⟨(some 51), .bin .or (.t 46) (.t 50), [2, 6], none⟩⟩,
   ⟨true, ⟨(some 11), .mov (.t 51), [7, 0, 1, 2, 3, 4, 5, 6, 7], none⟩⟩] [] 4486007441326081)
 (.seq (.region [⟨true, ⟨(some 52), .mov (.t 1), [], none⟩⟩,
   ⟨true, ⟨(some 53), .mov (.t 8), [], none⟩⟩,
   ⟨true, ⟨(some 54), .bin .shl (.t 52) (.t 53), [0, 1], none⟩⟩,
   ⟨true, ⟨(some 12), .mov (.t 54), [2, 0, 1, 2], none⟩⟩] [] 31525197391593474)
 (.seq (.region [⟨true, ⟨(some 55), .mov (.t 12), [], none⟩⟩,
   ⟨true, ⟨(some 56), .bin .shr (.t 55) (.c (.int .u64 (.ofNat 32))), [0], none⟩⟩,
   ⟨true, ⟨(some 13), .mov (.t 56), [1, 0, 1], none⟩⟩] [] 108086391056891904)
 (.seq (.region [⟨true, ⟨(some 57), .mov (.t 12), [], none⟩⟩,
   ⟨true, ⟨(some 58), .bin .and (.t 57) (.c (.int .u64 (.ofNat 4294967295))), [0], none⟩⟩,
   ⟨true, ⟨(some 14), .mov (.t 58), [1, 0, 1], none⟩⟩] [] 432345564227571712)
 (.seq (.region [⟨true, ⟨(some 59), .mov (.t 11), [], none⟩⟩,
   ⟨true, ⟨(some 60), .mov (.t 9), [], none⟩⟩,
   ⟨true, ⟨(some 61), .bin .quo (.t 59) (.t 60), [0, 1], none⟩⟩,
   ⟨true, ⟨(some 15), .mov (.t 61), [2, 0, 1, 2], none⟩⟩] [] 4035225266123964416)
 (.seq (.region [⟨true, ⟨(some 62), .mov (.t 11), [], none⟩⟩,
   ⟨true, ⟨(some 63), .mov (.t 15), [], none⟩⟩,
   ⟨true, ⟨(some 64), .mov (.t 9), [], none⟩⟩,
   ⟨true, ⟨(some 65), .bin .mul (.t 63) (.t 64), [1, 2], none⟩⟩,
   ⟨true, ⟨(some 66), .bin .sub (.t 62) (.t 65), [0, 3], none⟩⟩,
   ⟨true, ⟨(some 16), .mov (.t 66), [4, 0, 1, 2, 3, 4], none⟩⟩] [] 142962266571249025024)
 (.seq (.block 0 (.loop (.seq (.seq (.region [⟨true, ⟨(some 67), .mov (.t 15), [], none⟩⟩,
   ⟨true, ⟨(some 68), .bin .geq (.t 67) (.c (.int .u64 (.ofNat 4294967296))), [0], none⟩⟩,
   ⟨true, ⟨(some 69), .mov (.t 68), [1], none⟩⟩,
   ⟨false, ⟨(some 70), .mov (.t 15), [2], (some (69, false))⟩⟩,
   ⟨false, ⟨(some 71), .mov (.t 10), [2], (some (69, false))⟩⟩,
   ⟨false, ⟨(some 72), .bin .mul (.t 70) (.t 71), [3, 4, 2], (some (69, false))⟩⟩,
   ⟨false, ⟨(some 73), .mov (.t 16), [2], (some (69, false))⟩⟩,
   ⟨false, ⟨(some 74), .bin .mul (.c (.int .u64 (.ofNat 4294967296))) (.t 73), [6, 2], (some (69, false))⟩⟩,
   ⟨false, ⟨(some 75), .mov (.t 13), [2], (some (69, false))⟩⟩,
   ⟨false, ⟨(some 76), .bin .add (.t 74) (.t 75), [7, 8, 2], (some (69, false))⟩⟩,
   ⟨false, ⟨(some 77), .bin .gtr (.t 72) (.t 76), [5, 9, 2], (some (69, false))⟩⟩,
   ⟨true, ⟨(some 78), .pick (.t 69) (.c (.bool true)) (.t 77), [2, 10], none⟩⟩] [] 1033017668127734890496)
 (.cond (.t 78)
  .skip
  (.exit 0)))
 (.block 1 (.seq (.region [⟨true, ⟨(some 79), .mov (.t 15), [], none⟩⟩,
   ⟨true, ⟨(some 80), .bin .sub (.t 79) (.c (.int .u64 (.ofNat 1))), [0], none⟩⟩,
   ⟨false, ⟨(some 15), .mov (.t 80), [1, 0, 1], none⟩⟩] [] 2115620184325601055735808)
 (.seq (.region [⟨true, ⟨(some 81), .mov (.t 16), [], none⟩⟩,
   ⟨true, ⟨(some 82), .mov (.t 9), [], none⟩⟩,
   ⟨true, ⟨(some 83), .bin .add (.t 81) (.t 82), [0, 1], none⟩⟩,
   ⟨false, ⟨(some 16), .mov (.t 83), [2, 0, 1, 2], none⟩⟩] [] 16924961474604808445886464)
 (.seq (.region [⟨true, ⟨(some 84), .mov (.t 16), [], none⟩⟩,
   ⟨true, ⟨(some 85), .bin .geq (.t 84) (.c (.int .u64 (.ofNat 4294967296))), [0], none⟩⟩] [] 19342813113834066795298816)
 (.cond (.t 85)
  (.exit 0)
  .skip))))))))
 (.seq (.region [⟨true, ⟨(some 86), .mov (.t 11), [], none⟩⟩,
   ⟨true, ⟨(some 87), .bin .mul (.t 86) (.c (.int .u64 (.ofNat 4294967296))), [0], none⟩⟩,
   ⟨true, ⟨(some 88), .mov (.t 13), [], none⟩⟩,
   ⟨true, ⟨(some 89), .bin .add (.t 87) (.t 88), [1, 2], none⟩⟩,
   ⟨true, ⟨(some 90), .mov (.t 15), [], none⟩⟩,
   ⟨true, ⟨(some 91), .mov (.t 2), [], none⟩⟩,
   ⟨true, ⟨(some 92), .bin .mul (.t 90) (.t 91), [4, 5], none⟩⟩,
   ⟨true, ⟨(some 93), .bin .sub (.t 89) (.t 92), [3, 6], none⟩⟩,
   ⟨true, ⟨(some 17), .mov (.t 93), [7, 0, 1, 2, 3, 4, 5, 6, 7], none⟩⟩] [] 19729970426974031071087241216)
 (.seq (.region [⟨true, ⟨(some 94), .mov (.t 17), [], none⟩⟩,
   ⟨true, ⟨(some 95), .mov (.t 9), [], none⟩⟩,
   ⟨true, ⟨(some 96), .bin .quo (.t 94) (.t 95), [0, 1], none⟩⟩,
   ⟨true, ⟨(some 18), .mov (.t 96), [2, 0, 1, 2], none⟩⟩] [] 138649284399962590788701913088)
 (.seq (.region [⟨true, ⟨(some 97), .mov (.t 17), [], none⟩⟩,
   ⟨true, ⟨(some 98), .mov (.t 18), [], none⟩⟩,
   ⟨true, ⟨(some 99), .mov (.t 9), [], none⟩⟩,
   ⟨true, ⟨(some 100), .bin .mul (.t 98) (.t 99), [1, 2], none⟩⟩,
   ⟨true, ⟨(some 101), .bin .sub (.t 97) (.t 100), [0, 3], none⟩⟩,
   ⟨true, ⟨(some 16), .mov (.t 101), [4, 0, 1, 2, 3, 4], none⟩⟩] [] 4912146075884388930799724920832)
 (.seq (.block 2 (.loop (.seq (.seq (.region [⟨true, ⟨(some 102), .mov (.t 18), [], none⟩⟩,
   ⟨true, ⟨(some 103), .bin .geq (.t 102) (.c (.int .u64 (.ofNat 4294967296))), [0], none⟩⟩,
   ⟨true, ⟨(some 104), .mov (.t 103), [1], none⟩⟩,
   ⟨false, ⟨(some 105), .mov (.t 18), [2], (some (104, false))⟩⟩,
   ⟨false, ⟨(some 106), .mov (.t 10), [2], (some (104, false))⟩⟩,
   ⟨false, ⟨(some 107), .bin .mul (.t 105) (.t 106), [3, 4, 2], (some (104, false))⟩⟩,
   ⟨false, ⟨(some 108), .mov (.t 16), [2], (some (104, false))⟩⟩,
   ⟨false, ⟨(some 109), .bin .mul (.c (.int .u64 (.ofNat 4294967296))) (.t 108), [6, 2], (some (104, false))⟩⟩,
   ⟨false, ⟨(some 110), .mov (.t 14), [2], (some (104, false))⟩⟩,
   ⟨false, ⟨(some 111), .bin .add (.t 109) (.t 110), [7, 8, 2], (some (104, false))⟩⟩,
   ⟨false, ⟨(some 112), .bin .gtr (.t 107) (.t 111), [5, 9, 2], (some (104, false))⟩⟩,
   ⟨true, ⟨(some 113), .pick (.t 104) (.c (.bool true)) (.t 112), [2, 10], none⟩⟩] [] 35494216806390423241907689750528)
 (.cond (.t 113)
  .skip
  (.exit 2)))
 (.block 3 (.seq (.region [⟨true, ⟨(some 114), .mov (.t 18), [], none⟩⟩,
   ⟨true, ⟨(some 115), .bin .sub (.t 114) (.c (.int .u64 (.ofNat 1))), [0], none⟩⟩,
   ⟨false, ⟨(some 18), .mov (.t 115), [1, 0, 1], none⟩⟩] [] 72692156019487586799426948609081344)
 (.seq (.region [⟨true, ⟨(some 116), .mov (.t 16), [], none⟩⟩,
   ⟨true, ⟨(some 117), .mov (.t 9), [], none⟩⟩,
   ⟨true, ⟨(some 118), .bin .add (.t 116) (.t 117), [0, 1], none⟩⟩,
   ⟨false, ⟨(some 16), .mov (.t 118), [2, 0, 1, 2], none⟩⟩] [] 581537248155900694395415588872650752)
 (.seq (.region [⟨true, ⟨(some 119), .mov (.t 16), [], none⟩⟩,
   ⟨true, ⟨(some 120), .bin .geq (.t 119) (.c (.int .u64 (.ofNat 4294967296))), [0], none⟩⟩] [] 664613997892457936451903530140172288)
 (.cond (.t 120)
  (.exit 2)
  .skip))))))))
 (.seq (.region [⟨true, ⟨(some 121), .mov (.t 15), [], none⟩⟩,
   ⟨true, ⟨(some 122), .bin .mul (.t 121) (.c (.int .u64 (.ofNat 4294967296))), [0], none⟩⟩,
   ⟨true, ⟨(some 123), .mov (.t 18), [], none⟩⟩,
   ⟨true, ⟨(some 124), .bin .add (.t 122) (.t 123), [1, 2], none⟩⟩,
   ⟨true, ⟨(some 125), .mov (.t 17), [], none⟩⟩,
   ⟨true, ⟨(some 126), .bin .mul (.t 125) (.c (.int .u64 (.ofNat 4294967296))), [4], none⟩⟩,
   ⟨true, ⟨(some 127), .mov (.t 14), [], none⟩⟩,
   ⟨true, ⟨(some 128), .bin .add (.t 126) (.t 127), [5, 6], none⟩⟩,
   ⟨true, ⟨(some 129), .mov (.t 18), [], none⟩⟩,
   ⟨true, ⟨(some 130), .mov (.t 2), [], none⟩⟩,
   ⟨true, ⟨(some 131), .bin .mul (.t 129) (.t 130), [8, 9], none⟩⟩,
   ⟨true, ⟨(some 132), .bin .sub (.t 128) (.t 131), [7, 10], none⟩⟩,
   ⟨true, ⟨(some 133), .mov (.t 8), [], none⟩⟩,
   ⟨true, ⟨(some 134), .bin .shr (.t 132) (.t 133), [11, 12], none⟩⟩,
   ⟨true, ⟨(some 6), .mov (.t 124), [3, 0, 1, 2, 3], none⟩⟩,
   ⟨true, ⟨(some 7), .mov (.t 134), [13, 14, 0, 1, 2, 3, 4, 5, 6, 7, 8, 9, 10, 11, 12, 13, 14], none⟩⟩] [] 43553494853917451353918058350243926755076)
 .ret))))))))))))))))))))⟩

-- math/bits.Mul64
def f81 : FFn := ⟨51, [.tmp 4, .tmp 5],
 (.seq (.region [⟨true, ⟨(some 4), .mov (.c (.int .u64 (.ofNat 0))), [], none⟩⟩,
   ⟨true, ⟨(some 5), .mov (.c (.int .u64 (.ofNat 0))), [0], none⟩⟩] [] 48)
 (.seq (.region [⟨true, ⟨(some 14), .mov (.t 0), [], none⟩⟩,
   ⟨true, ⟨(some 15), .bin .and (.t 14) (.c (.int .u64 (.ofNat 4294967295))), [0], none⟩⟩,
   ⟨true, ⟨(some 6), .mov (.t 15), [1, 0, 1], none⟩⟩] [] 49152)
 (.seq (.region [⟨true, ⟨(some 16), .mov (.t 0), [], none⟩⟩,
   ⟨true, ⟨(some 17), .bin .shr (.t 16) (.c (.int .u64 (.ofNat 32))), [0], none⟩⟩,
   ⟨true, ⟨(some 7), .mov (.t 17), [1, 0, 1], none⟩⟩] [] 196608)
 (.seq (.region [⟨true, ⟨(some 18), .mov (.t 1), [], none⟩⟩,
   ⟨true, ⟨(some 19), .bin .and (.t 18) (.c (.int .u64 (.ofNat 4294967295))), [0], none⟩⟩,
   ⟨true, ⟨(some 8), .mov (.t 19), [1, 0, 1], none⟩⟩] [] 786432)
 (.seq (.region [⟨true, ⟨(some 20), .mov (.t 1), [], none⟩⟩,
   ⟨true, ⟨(some 21), .bin .shr (.t 20) (.c (.int .u64 (.ofNat 32))), [0], none⟩⟩,
   ⟨true, ⟨(some 9), .mov (.t 21), [1, 0, 1], none⟩⟩] [] 3145728)
 (.seq (.region [⟨true, ⟨(some 22), .mov (.t 6), [], none⟩⟩,
   ⟨true, ⟨(some 23), .mov (.t 8), [], none⟩⟩,
   ⟨true, ⟨(some 24), .bin .mul (.t 22) (.t 23), [0, 1], none⟩⟩,
   ⟨true, ⟨(some 10), .mov (.t 24), [2, 0, 1, 2], none⟩⟩] [] 29360128)
 (.seq (.region [⟨true, ⟨(some 25), .mov (.t 7), [], none⟩⟩,
   ⟨true, ⟨(some 26), .mov (.t 8), [], none⟩⟩,
   ⟨true, ⟨(some 27), .bin .mul (.t 25) (.t 26), [0, 1], none⟩⟩,
   ⟨true, ⟨(some 28), .mov (.t 10), [], none⟩⟩,
   ⟨true, ⟨(some 29), .bin .shr (.t 28) (.c (.int .u64 (.ofNat 32))), [3], none⟩⟩,
   ⟨true, ⟨(some 30), .bin .add (.t 27) (.t 29), [2, 4], none⟩⟩,
   ⟨true, ⟨(some 11), .mov (.t 30), [5, 0, 1, 2, 3, 4, 5], none⟩⟩] [] 2113930496)
 (.seq (.region [⟨true, ⟨(some 31), .mov (.t 11), [], none⟩⟩,
   ⟨true, ⟨(some 32), .bin .and (.t 31) (.c (.int .u64 (.ofNat 4294967295))), [0], none⟩⟩,
   ⟨true, ⟨(some 12), .mov (.t 32), [1, 0, 1], none⟩⟩] [] 6442450944)
 (.seq (.region [⟨true, ⟨(some 33), .mov (.t 11), [], none⟩⟩,
   ⟨true, ⟨(some 34), .bin .shr (.t 33) (.c (.int .u64 (.ofNat 32))), [0], none⟩⟩,
   ⟨true, ⟨(some 13), .mov (.t 34), [1, 0, 1], none⟩⟩] [] 25769805824)
 (.seq (.region [⟨true, ⟨(some 35), .mov (.t 12), [], none⟩⟩,
   ⟨true, ⟨(some 36), .mov (.t 6), [], none⟩⟩,
   ⟨true, ⟨(some 37), .mov (.t 9), [], none⟩⟩,
   ⟨true, ⟨(some 38), .bin .mul (.t 36) (.t 37), [1, 2], none⟩⟩,
   ⟨true, ⟨(some 39), .bin .add (.t 35) (.t 38), [0, 3], none⟩⟩,
   ⟨false, ⟨(some 12), .mov (.t 39), [4, 0, 1, 2, 3, 4], none⟩⟩] [] 1065151889472)
 (.seq (.region [⟨true, ⟨(some 40), .mov (.t 7), [], none⟩⟩,
   ⟨true, ⟨(some 41), .mov (.t 9), [], none⟩⟩,
   ⟨true, ⟨(some 42), .bin .mul (.t 40) (.t 41), [0, 1], none⟩⟩,
   ⟨true, ⟨(some 43), .mov (.t 13), [], none⟩⟩,
   ⟨true, ⟨(some 44), .bin .add (.t 42) (.t 43), [2, 3], none⟩⟩,
   ⟨true, ⟨(some 45), .mov (.t 12), [], none⟩⟩,
   ⟨true, ⟨(some 46), .bin .shr (.t 45) (.c (.int .u64 (.ofNat 32))), [5], none⟩⟩,
   ⟨true, ⟨(some 47), .bin .add (.t 44) (.t 46), [4, 6], none⟩⟩,
   ⟨true, ⟨(some 4), .mov (.t 47), [7, 0, 1, 2, 3, 4, 5, 6, 7], none⟩⟩] [] 280375465095808)
 (.seq (.region [⟨true, ⟨(some 48), .mov (.t 0), [], none⟩⟩,
   ⟨true, ⟨(some 49), .mov (.t 1), [], none⟩⟩,
   ⟨true, ⟨(some 50), .bin .mul (.t 48) (.t 49), [0, 1], none⟩⟩,
   ⟨true, ⟨(some 5), .mov (.t 50), [2, 0, 1, 2], none⟩⟩] [] 1970324836974595)
 .ret))))))))))))⟩

-- math/bits.LeadingZeros64
def f82 : FFn := ⟨6, [.tmp 2],
 (.seq (.region [⟨true, ⟨(some 2), .mov (.c (.int .i64 (.ofNat 0))), [], none⟩⟩] [] 4)
 (.seq (.region [⟨true, ⟨(some 3), .mov (.t 0), [], none⟩⟩,
   ⟨true, ⟨(some 4), .call .heap (.f 83) [(.t 3)], [0], none⟩⟩,
   ⟨true, ⟨(some 5), .bin .sub (.c (.int .i64 (.ofNat 64))) (.t 4), [1], none⟩⟩,
   ⟨true, ⟨(some 2), .mov (.t 5), [2, 1, 0, 1, 2], none⟩⟩] [] 57)
 .ret))⟩

-- math/bits.Len64
def f83 : FFn := ⟨25, [.tmp 2],
 (.seq (.region [⟨true, ⟨(some 2), .mov (.c (.int .i64 (.ofNat 0))), [], none⟩⟩] [] 0)
 (.seq (.seq (.region [⟨true, ⟨(some 3), .mov (.t 0), [], none⟩⟩,
   ⟨true, ⟨(some 4), .bin .geq (.t 3) (.c (.int .u64 (.ofNat 4294967296))), [0], none⟩⟩] [] 8)
 (.cond (.t 4)
  (.seq (.region [⟨true, ⟨(some 5), .mov (.t 0), [], none⟩⟩,
    ⟨true, ⟨(some 6), .bin .shr (.t 5) (.c (.int .u64 (.ofNat 32))), [0], none⟩⟩,
    ⟨false, ⟨(some 0), .mov (.t 6), [1, 0, 1], none⟩⟩] [] 116)
  (.region [⟨true, ⟨(some 2), .mov (.c (.int .i64 (.ofNat 32))), [], none⟩⟩] [] 0))
  .skip))
 (.seq (.seq (.region [⟨true, ⟨(some 7), .mov (.t 0), [], none⟩⟩,
   ⟨true, ⟨(some 8), .bin .geq (.t 7) (.c (.int .u64 (.ofNat 65536))), [0], none⟩⟩] [] 144)
 (.cond (.t 8)
  (.seq (.region [⟨true, ⟨(some 9), .mov (.t 0), [], none⟩⟩,
    ⟨true, ⟨(some 10), .bin .shr (.t 9) (.c (.int .u64 (.ofNat 16))), [0], none⟩⟩,
    ⟨false, ⟨(some 0), .mov (.t 10), [1, 0, 1], none⟩⟩] [] 1792)
  (.region [⟨true, ⟨(some 11), .mov (.t 2), [], none⟩⟩,
    ⟨true, ⟨(some 12), .bin .add (.t 11) (.c (.int .i64 (.ofNat 16))), [0], none⟩⟩,
    ⟨false, ⟨(some 2), .mov (.t 12), [1, 0, 1], none⟩⟩] [] 6144))
  .skip))
 (.seq (.seq (.region [⟨true, ⟨(some 13), .mov (.t 0), [], none⟩⟩,
   ⟨true, ⟨(some 14), .bin .geq (.t 13) (.c (.int .u64 (.ofNat 256))), [0], none⟩⟩] [] 8448)
 (.cond (.t 14)
  (.seq (.region [⟨true, ⟨(some 15), .mov (.t 0), [], none⟩⟩,
    ⟨true, ⟨(some 16), .bin .shr (.t 15) (.c (.int .u64 (.ofNat 8))), [0], none⟩⟩,
    ⟨false, ⟨(some 0), .mov (.t 16), [1, 0, 1], none⟩⟩] [] 114688)
  (.region [⟨true, ⟨(some 17), .mov (.t 2), [], none⟩⟩,
    ⟨true, ⟨(some 18), .bin .add (.t 17) (.c (.int .i64 (.ofNat 8))), [0], none⟩⟩,
    ⟨false, ⟨(some 2), .mov (.t 18), [1, 0, 1], none⟩⟩] [] 393216))
  .skip))
 (.seq (.region [⟨true, ⟨(some 19), .mov (.t 2), [], none⟩⟩,
   ⟨true, ⟨(some 20), .mov (.t 0), [], none⟩⟩,
   ⟨true, ⟨(some 21), .conv .u8 (.t 20), [1], none⟩⟩,
   ⟨true, ⟨(some 22), .index none (.c (.str [0, 1, 2, 2, 3, 3, 3, 3, 4, 4, 4, 4, 4, 4, 4, 4, 5, 5, 5, 5, 5, 5, 5, 5, 5, 5, 5, 5, 5, 5, 5, 5, 6, 6, 6, 6, 6, 6, 6, 6, 6, 6, 6, 6, 6, 6, 6, 6, 6, 6, 6, 6, 6, 6, 6, 6, 6, 6, 6, 6, 6, 6, 6, 6, 7, 7, 7, 7, 7, 7, 7, 7, 7, 7, 7, 7, 7, 7, 7, 7, 7, 7, 7, 7, 7, 7, 7, 7, 7, 7, 7, 7, 7, 7, 7, 7, 7, 7, 7, 7, 7, 7, 7, 7, 7, 7, 7, 7, 7, 7, 7, 7, 7, 7, 7, 7, 7, 7, 7, 7, 7, 7, 7, 7, 7, 7, 7, 7, 8, 8, 8, 8, 8, 8, 8, 8, 8, 8, 8, 8, 8, 8, 8, 8, 8, 8, 8, 8, 8, 8, 8, 8, 8, 8, 8, 8, 8, 8, 8, 8, 8, 8, 8, 8, 8, 8, 8, 8, 8, 8, 8, 8, 8, 8, 8, 8, 8, 8, 8, 8, 8, 8, 8, 8, 8, 8, 8, 8, 8, 8, 8, 8, 8, 8, 8, 8, 8, 8, 8, 8, 8, 8, 8, 8, 8, 8, 8, 8, 8, 8, 8, 8, 8, 8, 8, 8, 8, 8, 8, 8, 8, 8, 8, 8, 8, 8, 8, 8, 8, 8, 8, 8, 8, 8, 8, 8, 8, 8, 8, 8, 8, 8, 8, 8, 8, 8, 8, 8, 8, 8, 8, 8, 8, 8, 8, 8])) (.t 21), [2], none⟩⟩,
   ⟨true, ⟨(some 23), .conv .i64 (.t 22), [3], none⟩⟩,
   ⟨true, ⟨(some 24), .bin .add (.t 19) (.t 23), [0, 4], none⟩⟩,
   ⟨false, ⟨(some 2), .mov (.t 24), [5, 0, 1, 2, 3, 4, 5], none⟩⟩] [] 33046529)
 .ret)))))⟩


end Go.AM.FV
