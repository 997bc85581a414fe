/- A part of the proof of InvariantVerifies: lemmas on the way (AmMy, AmTa, AmTb, AmMh, AmMj, AmMk, AmMl, AmMm, AmPa, AmPb, AmPx, AmPd, AmPv, AmPw, AmNq, AmTc). Conditions: none of ours. -/
import Derived.Test.YteaeobmbfhaklaaProg
import Derived.KernelRfl
import Derived.Test.YteaeobmbfhaklaaAmZ8
set_option maxRecDepth 100000
namespace Go.AM.SM
open Go.Proofs
-- overseer/invariant.Minimal
def s14 : SFn := ⟨21, [.tmp 4, .tmp 5],
 (.seq (.region [⟨(some 2), .box .dyn (.t 0), [], none⟩,
   ⟨(some 4), .mov (.c .nilsl), [], none⟩,
   ⟨(some 5), .mov (.c (.int .i64 0)), [1], none⟩] [] [0, 4, 5])
 (.seq (.region [⟨(some 9), .load (some 2) (.t 2), [], none⟩,
   ⟨(some 10), .mov (.t 1), [], none⟩,
   ⟨(some 11), .call .pure (.f 39) [(.t 9), (.t 10)], [0, 1], none⟩,
   ⟨(some 8), .mov (.t 11), [2], none⟩,
   ⟨(some 12), .extract 0 (.t 8), [3], none⟩,
   ⟨(some 13), .extract 1 (.t 8), [3], none⟩,
   ⟨(some 6), .alloc .dyn (.agg [(.int .i64 0), .nilsl]), [], none⟩,
   ⟨none, .store 2 (.t 6) (.t 12), [6, 4, 2, 0, 1, 2, 3, 4, 6], none⟩,
   ⟨(some 7), .mov (.t 13), [5, 7, 0, 1, 2, 3, 4, 5, 6, 7], none⟩] [] [1, 2, 9, 10, 11, 8, 12, 13])
 (.seq (.seq (.region [⟨(some 14), .mov (.t 7), [], none⟩,
   ⟨(some 15), .bin .neq (.t 14) (.c (.int .i64 0)), [0], none⟩] [] [14])
 (.cond (.t 15)
  (.seq (.region [⟨(some 16), .mov (.t 7), [], none⟩,
    ⟨(some 4), .mov (.c .nilsl), [], none⟩,
    ⟨(some 5), .mov (.t 16), [0, 1, 0, 1], none⟩] [] [6, 7, 15, 16])
  .ret)
  .skip))
 (.seq (.region [⟨(some 17), .load (some 2) (.t 6), [], none⟩,
   ⟨(some 18), .call .pure (.f 40) [(.t 17)], [0], none⟩,
   ⟨(some 19), .extract 0 (.t 18), [1], none⟩,
   ⟨(some 20), .extract 1 (.t 18), [1], none⟩,
   ⟨(some 4), .mov (.t 19), [2, 1, 0, 1, 2, 3], none⟩,
   ⟨(some 5), .mov (.t 20), [3, 4, 0, 1, 2, 3, 4], none⟩] [] [6, 7, 15, 17, 18, 19, 20])
 .ret))))⟩
-- overseer/invariant.Covered
def s15 : SFn := ⟨38, [.tmp 4, .tmp 5],
 (.seq (.region [⟨(some 2), .box .dyn (.t 0), [], none⟩,
   ⟨(some 4), .mov (.c (.bool false)), [], none⟩,
   ⟨(some 5), .mov (.c (.int .i64 0)), [1], none⟩] [] [0, 4, 5])
 (.seq (.region [⟨(some 12), .load (some 2) (.t 2), [], none⟩,
   ⟨(some 13), .mov (.t 1), [], none⟩,
   ⟨(some 14), .call .pure (.f 39) [(.t 12), (.t 13)], [0, 1], none⟩,
   ⟨(some 11), .mov (.t 14), [2], none⟩,
   ⟨(some 15), .extract 0 (.t 11), [3], none⟩,
   ⟨(some 16), .extract 1 (.t 11), [3], none⟩,
   ⟨(some 6), .alloc .dyn (.agg [(.int .i64 0), .nilsl]), [], none⟩,
   ⟨none, .store 2 (.t 6) (.t 15), [6, 4, 2, 0, 1, 2, 3, 4, 6], none⟩,
   ⟨(some 7), .mov (.t 16), [5, 7, 0, 1, 2, 3, 4, 5, 6, 7], none⟩] [] [1, 2, 12, 13, 14, 11, 15, 16])
 (.seq (.seq (.region [⟨(some 17), .mov (.t 7), [], none⟩,
   ⟨(some 18), .bin .neq (.t 17) (.c (.int .i64 0)), [0], none⟩] [] [17])
 (.cond (.t 18)
  (.seq (.region [⟨(some 19), .mov (.t 7), [], none⟩,
    ⟨(some 4), .mov (.c (.bool false)), [], none⟩,
    ⟨(some 5), .mov (.t 19), [0, 1, 0, 1], none⟩] [] [6, 7, 18, 19])
  .ret)
  .skip))
 (.seq (.region [⟨(some 8), .mov (.c (.int .u16 0)), [], none⟩] [] [4, 5, 7, 18])
 (.seq (.seq (.region [⟨(some 20), .load (some 2) (.t 6), [], none⟩,
   ⟨(some 21), .call .pure (.f 41) [(.t 20)], [0], none⟩,
   ⟨(some 22), .len 1 (.t 21), [1], none⟩,
   ⟨(some 23), .mov (.c (.int .i64 0)), [], none⟩] [] [20])
 (.block 0 (.loop (.seq (.region [⟨(some 24), .bin .lss (.t 23) (.t 22), [], none⟩] [] [])
 (.seq (.cond (.t 24)
  .skip
  (.exit 0))
 (.seq (.block 1 (.seq (.region [⟨(some 25), .iaddr none 11 (.t 21) (.t 23), [], none⟩,
   ⟨(some 26), .load (some 11) (.t 25), [0], none⟩,
   ⟨(some 10), .alloc .dyn (.agg [(.int .u16 0), (.int .i64 0), (.int .i64 0), (.int .i64 0), (.int .i64 0), (.int .i64 0), (.int .i64 0), (.int .i64 0), (.int .i64 0), (.int .i64 0), (.int .i64 0)]), [], none⟩,
   ⟨none, .store 11 (.t 10) (.t 26), [2, 1, 0, 1, 2], none⟩] [] [24, 25, 26])
 (.region [⟨(some 27), .mov (.t 8), [], none⟩,
   ⟨(some 28), .faddr 0 (.t 10), [], none⟩,
   ⟨(some 29), .load none (.t 28), [1], none⟩,
   ⟨(some 30), .bin .or (.t 27) (.t 29), [0, 2], none⟩,
   ⟨(some 8), .mov (.t 30), [3, 0, 1, 2, 3], none⟩] [] [10, 27, 28, 29, 30])))
 (.region [⟨(some 31), .bin .add (.t 23) (.c (.int .i64 1)), [], none⟩,
   ⟨(some 23), .mov (.t 31), [0], none⟩] [] [31])))))))
 (.seq (.region [⟨(some 32), .mov (.t 8), [], none⟩,
   ⟨(some 33), .faddr 0 (.t 6), [], none⟩,
   ⟨(some 34), .load none (.t 33), [1], none⟩,
   ⟨(some 35), .bin .shl (.c (.int .u16 1)) (.t 34), [2], none⟩,
   ⟨(some 36), .bin .sub (.t 35) (.c (.int .u16 1)), [3], none⟩,
   ⟨(some 37), .bin .eql (.t 32) (.t 36), [0, 4], none⟩,
   ⟨(some 4), .mov (.t 37), [5, 0, 1, 2, 3, 4, 5], none⟩,
   ⟨(some 5), .mov (.c (.int .i64 0)), [6, 0, 1, 2, 3, 4, 5, 6], none⟩] [] [6, 8, 21, 22, 23, 32, 33, 34, 35, 36, 37])
 .ret))))))⟩
-- (overseer/invariant.table).listed
def s40 : SFn := ⟨48, [.tmp 2, .tmp 3],
 (.seq (.region [⟨(some 1), .box .dyn (.t 0), [], none⟩,
   ⟨(some 2), .mov (.c .nilsl), [], none⟩,
   ⟨(some 3), .mov (.c (.int .i64 0)), [1], none⟩] [] [0, 2, 3])
 (.seq (.region [⟨(some 10), .load (some 2) (.t 1), [], none⟩,
   ⟨(some 11), .call .pure (.f 41) [(.t 10)], [0], none⟩,
   ⟨(some 4), .mov (.t 11), [1, 1, 0, 1], none⟩] [] [10, 11])
 (.seq (.seq (.region [⟨(some 12), .mov (.t 4), [], none⟩,
   ⟨(some 13), .len 1 (.t 12), [0], none⟩,
   ⟨(some 14), .bin .gtr (.t 13) (.c (.int .i64 128)), [1], none⟩] [] [12, 13])
 (.cond (.t 14)
  (.seq (.region [⟨(some 2), .mov (.c .nilsl), [], none⟩,
    ⟨(some 3), .mov (.c (.int .i64 3)), [0, 0], none⟩] [] [1, 4, 14])
  .ret)
  .skip))
 (.seq (.region [⟨(some 5), .mov (.c .nilsl), [], none⟩] [] [2, 3, 14])
 (.seq (.seq (.region [⟨(some 15), .mov (.t 4), [], none⟩,
   ⟨(some 16), .len 1 (.t 15), [0], none⟩,
   ⟨(some 17), .mov (.c (.int .i64 0)), [], none⟩] [] [4])
 (.block 0 (.loop (.seq (.region [⟨(some 18), .bin .lss (.t 17) (.t 16), [], none⟩] [] [])
 (.seq (.cond (.t 18)
  .skip
  (.exit 0))
 (.seq (.block 1 (.seq (.region [⟨(some 19), .iaddr none 11 (.t 15) (.t 17), [], none⟩,
   ⟨(some 20), .load (some 11) (.t 19), [0], none⟩,
   ⟨(some 7), .alloc .dyn (.agg [(.int .u16 0), (.int .i64 0), (.int .i64 0), (.int .i64 0), (.int .i64 0), (.int .i64 0), (.int .i64 0), (.int .i64 0), (.int .i64 0), (.int .i64 0), (.int .i64 0)]), [], none⟩,
   ⟨none, .store 11 (.t 7) (.t 20), [2, 1, 0, 1, 2], none⟩] [] [18, 19, 20])
 (.seq (.region [⟨(some 21), .faddr 0 (.t 1), [], none⟩,
   ⟨(some 22), .load none (.t 21), [0], none⟩,
   ⟨(some 23), .mkslice .dyn 1 8 [(.int .i64 0)] (.t 22) (.t 22), [1, 1], none⟩,
   ⟨(some 8), .mov (.t 23), [2, 0, 1, 2], none⟩] [] [21, 22, 23])
 (.seq (.seq (.region [⟨(some 24), .mov (.t 8), [], none⟩,
   ⟨(some 25), .len 1 (.t 24), [0], none⟩,
   ⟨(some 26), .mov (.c (.int .i64 0)), [], none⟩] [] [24])
 (.block 2 (.loop (.seq (.region [⟨(some 27), .bin .lss (.t 26) (.t 25), [], none⟩] [] [])
 (.seq (.cond (.t 27)
  .skip
  (.exit 2))
 (.seq (.block 3 (.seq (.region [⟨(some 28), .mov (.t 26), [], none⟩,
   ⟨(some 9), .mov (.t 28), [0, 0], none⟩] [] [27, 28])
 (.seq (.seq (.region [⟨(some 29), .mov (.t 9), [], none⟩,
   ⟨(some 30), .faddr 1 (.t 7), [], none⟩,
   ⟨(some 31), .iaddr (some 10) 1 (.t 30) (.t 29), [1, 0], none⟩,
   ⟨(some 32), .load none (.t 31), [2], none⟩,
   ⟨(some 33), .bin .gtr (.t 32) (.c (.int .i64 65536)), [3], none⟩] [] [29, 30, 31, 32])
 (.cond (.t 33)
  (.seq (.region [⟨(some 2), .mov (.c .nilsl), [], none⟩,
    ⟨(some 3), .mov (.c (.int .i64 3)), [0, 0], none⟩] [] [1, 5, 15, 16, 17, 7, 8, 25, 26, 9, 33])
  .ret)
  .skip))
 (.region [⟨(some 34), .mov (.t 8), [], none⟩,
   ⟨(some 35), .mov (.t 9), [], none⟩,
   ⟨(some 36), .mov (.t 9), [], none⟩,
   ⟨(some 37), .faddr 1 (.t 7), [], none⟩,
   ⟨(some 38), .iaddr (some 10) 1 (.t 37) (.t 36), [3, 2], none⟩,
   ⟨(some 39), .load none (.t 38), [4], none⟩,
   ⟨(some 40), .iaddr none 1 (.t 34) (.t 35), [0, 1, 0, 1, 2, 3, 4, 5], none⟩,
   ⟨none, .store 1 (.t 40) (.t 39), [6, 5, 0, 1, 2, 3, 4, 5], none⟩] [] [2, 3, 9, 33, 34, 35, 36, 37, 38, 39, 40]))))
 (.region [⟨(some 41), .bin .add (.t 26) (.c (.int .i64 1)), [], none⟩,
   ⟨(some 26), .mov (.t 41), [0], none⟩] [] [41])))))))
 (.region [⟨(some 42), .mov (.t 5), [], none⟩,
   ⟨(some 43), .mov (.t 8), [], none⟩,
   ⟨(some 44), .bslice false .dyn 1 1 [.nilsl] [(0, 1, (.t 43))], [1], none⟩,
   ⟨(some 45), .append .dyn 1 24 (.t 42) (.t 44), [0, 2], none⟩,
   ⟨(some 5), .mov (.t 45), [3, 3, 0, 1, 2, 3], none⟩] [] [7, 8, 25, 26, 42, 43, 44, 45])))))
 (.region [⟨(some 46), .bin .add (.t 17) (.c (.int .i64 1)), [], none⟩,
   ⟨(some 17), .mov (.t 46), [0], none⟩] [] [46])))))))
 (.seq (.region [⟨(some 47), .mov (.t 5), [], none⟩,
   ⟨(some 2), .mov (.t 47), [0, 0], none⟩,
   ⟨(some 3), .mov (.c (.int .i64 0)), [1, 0, 1], none⟩] [] [1, 5, 15, 16, 17, 47])
 .ret))))))⟩
-- (overseer/invariant.table).minimal
def s41 : SFn := ⟨19, [.tmp 2],
 (.seq (.region [⟨(some 1), .box .dyn (.t 0), [], none⟩,
   ⟨(some 2), .mov (.c .nilsl), [], none⟩] [] [0, 2])
 (.seq (.region [⟨(some 3), .alloc .dyn .nilsl, [], none⟩] [] [])
 (.seq (.region [⟨(some 6), .mkmap .dyn, [], none⟩,
   ⟨(some 4), .alloc .dyn .nilmap, [], none⟩,
   ⟨none, .store 1 (.t 4) (.t 6), [1, 0, 0, 1], none⟩] [] [6])
 (.seq (.seq (.region [⟨(some 5), .mov (.c (.int .i64 1)), [], none⟩] [] [])
 (.block 0 (.loop (.seq (.seq (.region [⟨(some 7), .mov (.t 5), [], none⟩,
   ⟨(some 8), .faddr 0 (.t 1), [], none⟩,
   ⟨(some 9), .load none (.t 8), [1], none⟩,
   ⟨(some 10), .bin .leq (.t 7) (.t 9), [0, 2], none⟩] [] [7, 8, 9])
 (.cond (.t 10)
  .skip
  (.exit 0)))
 (.seq (.block 1 (.region [⟨(some 13), .faddr 0 (.t 1), [], none⟩,
   ⟨(some 14), .load none (.t 13), [0], none⟩,
   ⟨(some 15), .mov (.t 5), [], none⟩,
   ⟨(some 16), .mkfn 60 [] [(.t 4), (.t 1), (.t 3)], [], none⟩,
   ⟨(some 17), .call .heap (.f 59) [(.t 14), (.t 15), (.t 16)], [1, 2, 3], none⟩] [] [10, 13, 14, 15, 16, 17]))
 (.region [⟨(some 11), .mov (.t 5), [], none⟩,
   ⟨(some 12), .bin .add (.t 11) (.c (.int .i64 1)), [0], none⟩,
   ⟨(some 5), .mov (.t 12), [1, 0, 1], none⟩] [] [11, 12]))))))
 (.seq (.region [⟨(some 18), .load none (.t 3), [], none⟩,
   ⟨(some 2), .mov (.t 18), [0, 0], none⟩] [] [1, 3, 4, 5, 18])
 .ret)))))⟩
-- overseer/invariant.choose
def s59 : SFn := ⟨70, [],
 (.seq (.region [⟨(some 10), .mov (.t 1), [], none⟩,
   ⟨(some 11), .mkslice .dyn 1 8 [(.int .i64 0)] (.t 10) (.t 10), [0, 0], none⟩,
   ⟨(some 6), .mov (.t 11), [1, 0, 1], none⟩] [] [10, 11])
 (.seq (.seq (.region [⟨(some 12), .mov (.t 6), [], none⟩,
   ⟨(some 13), .len 1 (.t 12), [0], none⟩,
   ⟨(some 14), .mov (.c (.int .i64 0)), [], none⟩] [] [12])
 (.block 0 (.loop (.seq (.region [⟨(some 15), .bin .lss (.t 14) (.t 13), [], none⟩] [] [])
 (.seq (.cond (.t 15)
  .skip
  (.exit 0))
 (.seq (.block 1 (.seq (.region [⟨(some 16), .mov (.t 14), [], none⟩,
   ⟨(some 7), .mov (.t 16), [0, 0], none⟩] [] [15, 16])
 (.region [⟨(some 17), .mov (.t 6), [], none⟩,
   ⟨(some 18), .mov (.t 7), [], none⟩,
   ⟨(some 19), .mov (.t 7), [], none⟩,
   ⟨(some 20), .iaddr none 1 (.t 17) (.t 18), [0, 1, 0, 1, 2], none⟩,
   ⟨none, .store 1 (.t 20) (.t 19), [3, 2, 0, 1, 2], none⟩] [] [7, 17, 18, 19, 20])))
 (.region [⟨(some 21), .bin .add (.t 14) (.c (.int .i64 1)), [], none⟩,
   ⟨(some 14), .mov (.t 21), [0], none⟩] [] [21])))))))
 (.block 2 (.loop (.seq (.seq (.region [⟨(some 22), .mov (.t 1), [], none⟩,
   ⟨(some 23), .mov (.t 0), [], none⟩,
   ⟨(some 24), .bin .leq (.t 22) (.t 23), [0, 1], none⟩] [] [13, 14, 22, 23])
 (.cond (.t 24)
  .skip
  (.exit 2)))
 (.block 3 (.seq (.region [⟨(some 25), .mov (.t 2), [], none⟩,
   ⟨(some 26), .mov (.t 6), [], none⟩,
   ⟨(some 27), .call .heap (.t 25) [(.t 26)], [0, 1], none⟩] [] [24, 25, 26, 27])
 (.seq (.region [⟨(some 28), .mov (.t 1), [], none⟩,
   ⟨(some 29), .bin .sub (.t 28) (.c (.int .i64 1)), [0], none⟩,
   ⟨(some 8), .mov (.t 29), [1, 0, 1], none⟩] [] [28, 29])
 (.seq (.block 4 (.loop (.seq (.seq (.region [⟨(some 30), .mov (.t 8), [], none⟩,
   ⟨(some 31), .bin .geq (.t 30) (.c (.int .i64 0)), [0], none⟩,
   ⟨(some 32), .mov (.t 31), [1], none⟩,
   ⟨(some 33), .mov (.t 6), [2], (some (32, true))⟩,
   ⟨(some 34), .mov (.t 8), [2], (some (32, true))⟩,
   ⟨(some 35), .iaddr none 1 (.t 33) (.t 34), [3, 4, 2], (some (32, true))⟩,
   ⟨(some 36), .load none (.t 35), [5, 2], (some (32, true))⟩,
   ⟨(some 37), .mov (.t 0), [2], (some (32, true))⟩,
   ⟨(some 38), .mov (.t 1), [2], (some (32, true))⟩,
   ⟨(some 39), .bin .sub (.t 37) (.t 38), [7, 8, 2], (some (32, true))⟩,
   ⟨(some 40), .mov (.t 8), [2], (some (32, true))⟩,
   ⟨(some 41), .bin .add (.t 39) (.t 40), [9, 10, 2], (some (32, true))⟩,
   ⟨(some 42), .bin .eql (.t 36) (.t 41), [6, 11, 2], (some (32, true))⟩,
   ⟨(some 43), .pick (.t 32) (.t 42) (.c (.bool false)), [2, 12], none⟩] [] [30, 31, 32])
 (.cond (.t 43)
  .skip
  (.exit 4)))
 (.block 5 (.region [⟨(some 44), .mov (.t 8), [], none⟩,
   ⟨(some 45), .bin .sub (.t 44) (.c (.int .i64 1)), [0], none⟩,
   ⟨(some 8), .mov (.t 45), [1, 0, 1], none⟩] [] [43, 44, 45])))))
 (.seq (.seq (.region [⟨(some 46), .mov (.t 8), [], none⟩,
   ⟨(some 47), .bin .lss (.t 46) (.c (.int .i64 0)), [0], none⟩] [] [46])
 (.cond (.t 47)
  .ret
  .skip))
 (.seq (.region [⟨(some 48), .mov (.t 6), [], none⟩,
   ⟨(some 49), .mov (.t 8), [], none⟩,
   ⟨(some 50), .iaddr none 1 (.t 48) (.t 49), [0, 1], none⟩,
   ⟨(some 51), .load none (.t 50), [2], none⟩,
   ⟨(some 52), .bin .add (.t 51) (.c (.int .i64 1)), [3], none⟩,
   ⟨(some 53), .iaddr none 1 (.t 48) (.t 49), [0, 1, 0, 1, 2, 3, 4], none⟩,
   ⟨none, .store 1 (.t 53) (.t 52), [5, 4, 0, 1, 2, 3, 4], none⟩] [] [47, 48, 49, 50, 51, 52, 53])
 (.seq (.region [⟨(some 54), .mov (.t 8), [], none⟩,
   ⟨(some 55), .bin .add (.t 54) (.c (.int .i64 1)), [0], none⟩,
   ⟨(some 9), .mov (.t 55), [1, 0, 1], none⟩] [] [8, 54, 55])
 (.block 6 (.loop (.seq (.seq (.region [⟨(some 56), .mov (.t 9), [], none⟩,
   ⟨(some 57), .mov (.t 1), [], none⟩,
   ⟨(some 58), .bin .lss (.t 56) (.t 57), [0, 1], none⟩] [] [56, 57])
 (.cond (.t 58)
  .skip
  (.exit 6)))
 (.seq (.block 7 (.region [⟨(some 61), .mov (.t 6), [], none⟩,
   ⟨(some 62), .mov (.t 9), [], none⟩,
   ⟨(some 63), .mov (.t 6), [], none⟩,
   ⟨(some 64), .mov (.t 9), [], none⟩,
   ⟨(some 65), .bin .sub (.t 64) (.c (.int .i64 1)), [3], none⟩,
   ⟨(some 66), .iaddr none 1 (.t 63) (.t 65), [2, 4], none⟩,
   ⟨(some 67), .load none (.t 66), [5], none⟩,
   ⟨(some 68), .bin .add (.t 67) (.c (.int .i64 1)), [6], none⟩,
   ⟨(some 69), .iaddr none 1 (.t 61) (.t 62), [0, 1, 0, 1, 2, 3, 4, 5, 6, 7], none⟩,
   ⟨none, .store 1 (.t 69) (.t 68), [8, 7, 0, 1, 2, 3, 4, 5, 6, 7], none⟩] [] [58, 61, 62, 63, 64, 65, 66, 67, 68, 69]))
 (.region [⟨(some 59), .mov (.t 9), [], none⟩,
   ⟨(some 60), .bin .add (.t 59) (.c (.int .i64 1)), [0], none⟩,
   ⟨(some 9), .mov (.t 60), [1, 0, 1], none⟩] [] [59, 60])))))))))))))))))⟩
-- (overseer/invariant.table).minimal$1
def s60 : SFn := ⟨71, [],
 (.seq (.region [⟨(some 5), .mov (.c (.int .u16 0)), [], none⟩] [] [])
 (.seq (.seq (.region [⟨(some 14), .mov (.t 0), [], none⟩,
   ⟨(some 15), .len 1 (.t 14), [0], none⟩,
   ⟨(some 16), .mov (.c (.int .i64 0)), [], none⟩] [] [])
 (.block 0 (.loop (.seq (.region [⟨(some 17), .bin .lss (.t 16) (.t 15), [], none⟩] [] [])
 (.seq (.cond (.t 17)
  .skip
  (.exit 0))
 (.seq (.block 1 (.seq (.region [⟨(some 18), .iaddr none 1 (.t 14) (.t 16), [], none⟩,
   ⟨(some 19), .load none (.t 18), [0], none⟩,
   ⟨(some 7), .mov (.t 19), [1, 0, 1], none⟩] [] [17, 18, 19])
 (.region [⟨(some 20), .mov (.t 5), [], none⟩,
   ⟨(some 21), .mov (.t 7), [], none⟩,
   ⟨(some 22), .bin .shl (.c (.int .u16 1)) (.t 21), [1], none⟩,
   ⟨(some 23), .bin .or (.t 20) (.t 22), [0, 2], none⟩,
   ⟨(some 5), .mov (.t 23), [3, 0, 1, 2, 3], none⟩] [] [7, 20, 21, 22, 23])))
 (.region [⟨(some 24), .bin .add (.t 16) (.c (.int .i64 1)), [], none⟩,
   ⟨(some 16), .mov (.t 24), [0], none⟩] [] [24])))))))
 (.seq (.mloop [⟨(some 25), .load none (.t 1), [], none⟩] (.t 25) 26 27 28 29 2 3 [⟨(some 30), .extract 0 (.t 29), [0], none⟩, ⟨(some 8), .mov (.t 30), [1, 0, 1], none⟩]
  (.seq (.region [⟨(some 31), .mov (.t 8), [], none⟩,
    ⟨(some 32), .mov (.t 5), [], none⟩,
    ⟨(some 33), .bin .and (.t 31) (.t 32), [0, 1], none⟩,
    ⟨(some 34), .mov (.t 8), [], none⟩,
    ⟨(some 35), .bin .eql (.t 33) (.t 34), [2, 3], none⟩] [] [])
  (.cond (.t 35)
   .ret
   .skip)))
 (.seq (.region [⟨(some 37), .load (some 2) (.t 2), [], none⟩,
   ⟨(some 38), .mov (.t 0), [], none⟩,
   ⟨(some 39), .call .heap (.f 61) [(.t 37), (.t 38)], [0, 1], none⟩,
   ⟨(some 36), .mov (.t 39), [2], none⟩,
   ⟨(some 40), .extract 0 (.t 36), [3], none⟩,
   ⟨(some 41), .extract 1 (.t 36), [3], none⟩,
   ⟨(some 9), .mov (.t 40), [4, 2, 0, 1, 2, 3, 4], none⟩,
   ⟨(some 10), .mov (.t 41), [5, 6, 0, 1, 2, 3, 4, 5, 6], none⟩] [] [2, 14, 15, 16, 37, 38, 39, 36, 40, 41])
 (.seq (.seq (.region [⟨(some 42), .mov (.t 10), [], none⟩,
   ⟨(some 43), .un .not (.t 42), [0], none⟩,
   ⟨(some 44), .mov (.t 43), [1], none⟩,
   ⟨(some 45), .mov (.t 9), [2], (some (44, false))⟩,
   ⟨(some 46), .call .borrow (.f 62) [(.t 45), (.f 63)], [3, 2, 2], (some (44, false))⟩,
   ⟨(some 47), .pick (.t 44) (.c (.bool true)) (.t 46), [2, 4], none⟩] [] [46, 45, 10, 42, 43, 44])
 (.cond (.t 47)
  .ret
  .skip))
 (.seq (.region [⟨(some 48), .mov (.t 5), [], none⟩,
   ⟨(some 49), .build [(.int .u16 0), (.int .i64 0), (.int .i64 0), (.int .i64 0), (.int .i64 0), (.int .i64 0), (.int .i64 0), (.int .i64 0), (.int .i64 0), (.int .i64 0), (.int .i64 0)] [(0, 1, (.t 48))], [0], none⟩,
   ⟨(some 11), .alloc .dyn (.agg [(.int .u16 0), (.int .i64 0), (.int .i64 0), (.int .i64 0), (.int .i64 0), (.int .i64 0), (.int .i64 0), (.int .i64 0), (.int .i64 0), (.int .i64 0), (.int .i64 0)]), [], none⟩,
   ⟨none, .store 11 (.t 11) (.t 49), [2, 1, 0, 1, 2], none⟩] [] [47, 48, 49])
 (.seq (.seq (.region [⟨(some 50), .mov (.t 0), [], none⟩,
   ⟨(some 51), .len 1 (.t 50), [0], none⟩,
   ⟨(some 52), .mov (.c (.int .i64 0)), [], none⟩] [] [0])
 (.block 4 (.loop (.seq (.region [⟨(some 53), .bin .lss (.t 52) (.t 51), [], none⟩] [] [])
 (.seq (.cond (.t 53)
  .skip
  (.exit 4))
 (.seq (.block 5 (.seq (.region [⟨(some 54), .mov (.t 52), [], none⟩,
   ⟨(some 55), .iaddr none 1 (.t 50) (.t 52), [], none⟩,
   ⟨(some 56), .load none (.t 55), [1], none⟩,
   ⟨(some 12), .mov (.t 54), [0, 0, 1, 2], none⟩,
   ⟨(some 13), .mov (.t 56), [2, 3, 0, 1, 2, 3], none⟩] [] [53, 54, 55, 56])
 (.region [⟨(some 57), .mov (.t 13), [], none⟩,
   ⟨(some 58), .mov (.t 9), [], none⟩,
   ⟨(some 59), .mov (.t 12), [], none⟩,
   ⟨(some 60), .iaddr none 1 (.t 58) (.t 59), [1, 2], none⟩,
   ⟨(some 61), .load none (.t 60), [3], none⟩,
   ⟨(some 62), .faddr 1 (.t 11), [], none⟩,
   ⟨(some 63), .iaddr (some 10) 1 (.t 62) (.t 57), [5, 0, 0, 1, 2, 3, 4], none⟩,
   ⟨none, .store 1 (.t 63) (.t 61), [6, 4, 0, 1, 2, 3, 4], none⟩] [] [12, 13, 57, 58, 59, 60, 61, 62, 63])))
 (.region [⟨(some 64), .bin .add (.t 52) (.c (.int .i64 1)), [], none⟩,
   ⟨(some 52), .mov (.t 64), [0], none⟩] [] [64])))))))
 (.seq (.region [⟨(some 65), .load none (.t 1), [], none⟩,
   ⟨(some 66), .mov (.t 5), [], none⟩,
   ⟨none, .mupd false [.i] (.t 65) (.t 66) (.c (.bool true)), [0, 1, 0, 1], none⟩] [] [1, 5, 9, 50, 51, 52, 65, 66])
 (.region [⟨(some 67), .load none (.t 3), [], none⟩,
   ⟨(some 68), .load (some 11) (.t 11), [], none⟩,
   ⟨(some 69), .bslice false .dyn 11 1 [(.int .u16 0), (.int .i64 0), (.int .i64 0), (.int .i64 0), (.int .i64 0), (.int .i64 0), (.int .i64 0), (.int .i64 0), (.int .i64 0), (.int .i64 0), (.int .i64 0)] [(0, 11, (.t 68))], [1], none⟩,
   ⟨(some 70), .append .dyn 11 88 (.t 67) (.t 69), [0, 2], none⟩,
   ⟨none, .store 1 (.t 3) (.t 70), [3, 3, 0, 1, 2, 3], none⟩] [] [3, 11, 67, 68, 69, 70])))))))))⟩
theorem ok14 : okFn Try.prog 14 s14 = true := by kernel_rfl
theorem ok15 : okFn Try.prog 15 s15 = true := by kernel_rfl
theorem ok40 : okFn Try.prog 40 s40 = true := by kernel_rfl
theorem ok41 : okFn Try.prog 41 s41 = true := by kernel_rfl
theorem ok59 : okFn Try.prog 59 s59 = true := by kernel_rfl
theorem ok60 : okFn Try.prog 60 s60 = true := by kernel_rfl
end Go.AM.SM
set_option linter.unusedSimpArgs false
set_option linter.unusedVariables false
namespace Go.AM
variable {P : Program}
def noLoop : SCode → Bool
  | .loop _ | .mloop .. => false
  | .seq a b => noLoop a && noLoop b
  | .cond _ a b => noLoop a && noLoop b
  | .block _ b => noLoop b
  | _ => true
/-- Code without loops names no block anew. -/
theorem wpC.toW1 {N : NM} : ∀ {c : SCode} {n : Nat} {T : Tmps} {h : Heap} {Q : QC}, noLoop c = true → wpC P N c n T h Q → W P N.n c (fun e B => ∃ n, Q e B.T B.h n) ⟨T, h⟩
  | .skip, n, T, h, Q, _, hk => W.skip ⟨n, hk⟩
  | .ret, n, T, h, Q, _, hk => W.ret ⟨n, hk⟩
  | .exit i, n, T, h, Q, _, hk => W.exit ⟨n, hk⟩
  | .bad, _, _, _, _, _, hk => hk.elim
  | .mloop .., n, T, h, Q, hn, hk => by simp [noLoop] at hn
  | .loop _, n, T, h, Q, hn, hk => by simp [noLoop] at hn
  | .region ops [] dead, n, T, h, Q, _, hk => by
    have := wpR.toWR (i := 0) hk
    exact W.regionR n (this |> fun h => by simpa using (show _ from (wpC.toW.wr_mono h)))
  | .region ops (p :: ps) dead, n, T, h, Q, _, hk => by
    obtain ⟨fs, T', h', h1, h2, h3⟩ := wpRF.toF (i := 0) hk
    exact W.regionF n fs h1 h2 ⟨_, h3⟩
  | .seq a b, n, T, h, Q, hn, hk => by
    simp only [wpC] at hk
    simp only [noLoop, Bool.and_eq_true] at hn
    refine W.seq ((wpC.toW1 (c := a) hn.1 hk).mono ?_)
    rintro e B ⟨n', hq⟩
    cases e with
    | normal => exact wpC.toW1 hn.2 hq
    | exit i => exact ⟨n', hq⟩
    | ret => exact ⟨n', hq⟩
  | .cond x a b, n, T, h, Q, hn, ⟨t, hx, hk⟩ => by
    simp only [noLoop, Bool.and_eq_true] at hn
    refine W.cond hx ?_ ?_
    · intro e; rw [if_pos e] at hk; exact wpC.toW1 hn.1 hk
    · intro e; rw [if_neg (by simp [e])] at hk; exact wpC.toW1 hn.2 hk
  | .block i b, n, T, h, Q, hn, hk => by
    simp only [wpC] at hk
    refine W.block ((wpC.toW1 (c := b) hn hk).mono ?_)
    rintro e B ⟨n', hq⟩
    cases e with
    | normal => exact ⟨n', hq⟩
    | ret => exact ⟨n', hq⟩
    | exit j =>
      simp only at hq ⊢
      split
      · rename_i e; rw [if_pos e] at hq; exact ⟨n', hq⟩
      · rename_i e; rw [if_neg e] at hq; exact ⟨n', hq⟩
theorem W.weak1 {N : Nat} {c : SCode} {Q : SX → St → Prop} {T L : Tmps} {h : Heap} (hT : Sub L T) (hw : W P N c Q ⟨L, h⟩) : W P N c Q ⟨T, h⟩ := by
  intro code hok ctx a w S Q' hQ
  refine hw code hok ctx a w ⟨S.heap, fun i => ?_, S.size, S.defers⟩ Q' hQ
  rcases hT i with e | e
  · show VRel ctx w (lk L i) _
    rw [e]; simp [VRel]
  · show VRel ctx w (lk L i) _
    rw [e]; exact S.tmps i
/-- Behind one entry: go on with the next, or be done with it all. -/
def msQ (P : Program) (N : NM) (L : Tmps) (h : Heap) (b2 : Nat) (G : Prop) (fs : List Fr) (Q : QC) : QC := fun e T h' n =>
  match e with
  | .normal => G ∧ Sub L T ∧ h' = h
  | .exit j => if j = b2 then G ∧ Sub L T ∧ h' = h else False
  | .ret => wX P N .ret fs n T h' Q
section
variable {N : NM} {n : Nat} {T L : Tmps} {h : Heap} {Q : QC} {fs : List Fr} {b2 : Nat} {G : Prop}
theorem msQ_normal {h' : Heap} : msQ P N L h b2 G fs Q .normal T h' n = (G ∧ Sub L T ∧ h' = h) := rfl
theorem msQ_exit {j : Nat} {h' : Heap} : msQ P N L h b2 G fs Q (.exit j) T h' n = if j = b2 then G ∧ Sub L T ∧ h' = h else False := rfl
theorem msQ_ret {h' : Heap} : msQ P N L h b2 G fs Q .ret T h' n = wX P N .ret fs n T h' Q := rfl
theorem Rec.sub {m : Nat} {T1 T Lx : Tmps} {L : HL} {h : Heap} (hr : Rec m T1 L Lx h) (hS : Sub Lx T) : Rec m T1 L T h := by
  obtain ⟨ps, h1, h2, h3, h4⟩ := hr
  refine ⟨ps, h1, h2, h3, fun i => ?_⟩
  rcases hS i with e | e
  · intro c w v H M _
    exact h4 i c w v H M (by rw [e]; simp [VRel])
  · rw [← e]; exact h4 i
/-- A LOOP OVER THE KEYS OF A MAP that looks at them in some order, until one ends the function; G k v: the entry does not. L: the slots that are kept; it, the iterator, among them asx the block k0. -/
theorem wS_msearch {kk m : Nat} {p d it nx ok en b1 a e8 : Nat} {l1 l2 : List Nat} {body : SCode} {b g off mb mg : Nat} {cs : List AV} {es : List (AV × AV)} (n0 n1 k0 : Nat) (L T1 : Tmps) (L1 : HL) (G : AV → AV → Prop)
    (htp : lk T p = .ptr b g off) (hb : h.get b = some (.cells g cs)) (hc : cs[off]? = some (.map mb mg)) (hm : h.get mb = some (.map mg es)) (hn : h.get k0 = none) (hk : k0 < 1099511627775) (hmk : mb ≠ k0)
    (hL : Sub ((it, .ptr k0 0 0) :: L) (up (up T d (.map mb mg)) it (.ptr k0 0 0)))
    (hfree : (((it, AV.any) :: L).all fun q => !Nat.beq q.1 nx && !Nat.beq q.1 ok && !Nat.beq q.1 en && !Nat.beq q.1 a && !Nat.beq q.1 e8) = true) (hae : a ≠ en) (hno : noLoop body = true)
    (round : ∀ (i : Nat) (k v : AV), es[i]? = some (k, v) → wS P ⟨kk, m⟩ body [] n0 ((e8, k) :: (it, .ptr k0 0 0) :: L) (h.set k0 (.dead 0)) (msQ P ⟨kk, m⟩ ((it, .ptr k0 0 0) :: L) (h.set k0 (.dead 0)) b2 (G k v) fs Q))
    (hrec : Rec m T1 L1 ((it, .ptr k0 0 0) :: L) (h.set k0 (.dead 0))) (cont : (∀ (i : Nat) (k v : AV), es[i]? = some (k, v) → G k v) → wX P ⟨kk, m⟩ .normal fs n1 T1 (hp L1) Q) :
    wS P ⟨kk, m⟩ (.mloop [⟨some d, .load none (.t p), [], none⟩] (.t d) it nx ok en b1 b2 [⟨some a, .extract 0 (.t en), l1, none⟩, ⟨some e8, .mov (.t a), l2, none⟩] body) fs n T h Q := by
  show W2 P ⟨kk, m⟩ (.mloop [⟨some d, .load none (.t p), [], none⟩] (.t d) it nx ok en b1 b2 _ body) (fun e B => ∃ n, ct P ⟨kk, m⟩ fs Q e B.T B.h n) ⟨T, h⟩
  have hkl : k0 < lim := by unfold lim; omega
  have hrun : ∃ f, RunF P n 0 [⟨some d, .load none (.t p), [], none⟩] [f] ⟨T, h⟩ ⟨up T d (.map mb mg), h⟩ := by
    refine ⟨_, _, [], .map mb mg, h, rfl, ⟨.val (.map mb mg), h, ?_, rfl, rfl, rfl⟩, rfl, rfl⟩
    show (hval (aLoad none (lk T p))).run h = _
    rw [htp]
    have : (aLoad none (.ptr b g off)).run h = some (.map mb mg, h) := by
      simp only [aLoad, HM.cells, HM.run, hb]
      have : Nat.beq g g = true := by simp
      rw [this]; simp only [cond_true, hc, HM.opt, HM.run]
    exact run_hval' _ _ this
  obtain ⟨f0, hrun⟩ := hrun
  have hf : ∀ j, (j = nx ∨ j = ok ∨ j = en ∨ j = a ∨ j = e8) → ∀ (X : Tmps) (v : AV), Sub ((it, .ptr k0 0 0) :: L) X → Sub ((it, .ptr k0 0 0) :: L) (up X j v) := by
    intro j hj X v hS i
    rw [lk_up]
    split
    · rename_i e; subst e
      left
      have hq : ∀ q ∈ ((it, AV.any) :: L), q.1 ≠ i := by
        intro q hq e
        have := List.all_eq_true.1 hfree q hq
        simp only [Bool.and_eq_true, Bool.not_eq_true', Bool.not_eq_true] at this
        have hne : Nat.beq q.1 i = false → False := fun h => by rw [show q.1 = i from e] at h; simp at h
        rcases hj with rfl | rfl | rfl | rfl | rfl
        · exact hne this.1.1.1.1
        · exact hne this.1.1.1.2
        · exact hne this.1.1.2
        · exact hne this.1.2
        · exact hne this.2
      have hmem : ∀ (M : Tmps), (∀ q ∈ M, q.1 ≠ i) → lk M i = .any := by
        intro M
        induction M with
        | nil => intro _; rfl
        | cons q M ih =>
          intro hM
          obtain ⟨j, u⟩ := q
          rw [lk_cons, if_neg (hM (j, u) (by simp)), ih fun q hq => hM q (by simp [hq])]
      refine hmem _ fun q hq' => ?_
      rcases List.mem_cons.1 hq' with rfl | h2
      · exact hq (it, AV.any) (by simp)
      · exact hq q (by simp [h2])
    · exact hS i
  refine W2.post (W2.of_W (W.mloop (A := ⟨T, h⟩) (B0 := ⟨up T d (.map mb mg), h⟩) (mb := mb) (mg := mg) (es := es) n _ hrun ?_ hm hn hkl
    (fun vis B => B.h = h.set k0 (.dead 0) ∧ Sub ((it, .ptr k0 0 0) :: L) B.T ∧ (lk B.T it = .ptr k0 0 0) ∧ ∀ i, i ∈ vis → ∀ (k v : AV), es[i]? = some (k, v) → G k v) ?_ ?_ ?_ ?_))
  · show lk (up T d (.map mb mg)) d = _
    rw [lk_up, if_pos rfl]
  · rintro vis B ⟨h1, h2, h3, _⟩
    exact ⟨h3, es, by rw [h1, get_ne hk hmk, hm], rfl⟩
  · exact ⟨rfl, hL, by rw [lk_up, if_pos rfl], fun i hi => by cases hi⟩
  · rintro vis B i k v es' ⟨h1, h2, h3, h4⟩ hi hme hes
    have hes' : es' = es := by
      rw [h1, get_ne hk hmk, hm] at hme; cases hme; rfl
    subst hes'
    generalize hX : up (up B.T nx .any) ok (.bool true) = X
    have hXS : Sub ((it, .ptr k0 0 0) :: L) X := by rw [← hX]; exact hf ok (.inr (.inl rfl)) _ _ (hf nx (.inl rfl) _ _ h2)
    refine ⟨n, _, ⟨up (up (up X en (.tup [k, v])) a k) e8 k, B.h⟩, ⟨_, _, k, B.h, rfl, ⟨.val k, B.h, ?_, rfl, rfl, rfl⟩, ⟨_, [], k, B.h, rfl, ⟨.val k, B.h, ?_, rfl, rfl, rfl⟩, rfl, rfl⟩⟩, ?_⟩
    · show (lift (aExtract 0 (lk (up X en (.tup [k, v])) en))).run B.h = _
      rw [lk_up, if_pos rfl]; rfl
    · show (HM.ret (AOut.val (lk (up (up X en (.tup [k, v])) a k) a))).run B.h = _
      rw [lk_up, if_pos rfl]; rfl
    · have hS2 := hf e8 (.inr (.inr (.inr (.inr rfl)))) _ k (hf a (.inr (.inr (.inr (.inl rfl)))) _ k (hf en (.inr (.inr (.inl rfl))) X (.tup [k, v]) hXS))
      rw [h1]
      refine W.weak1 (L := (e8, k) :: (it, .ptr k0 0 0) :: L) (Sub.cons (by rw [lk_up, if_pos rfl]) hS2) ((wpC.toW1 hno (round i k v hes)).mono ?_)
      have again : ∀ D : St, G k v ∧ Sub ((it, .ptr k0 0 0) :: L) D.T ∧ D.h = h.set k0 (.dead 0) → D.h = h.set k0 (.dead 0) ∧ Sub ((it, .ptr k0 0 0) :: L) D.T ∧ lk D.T it = .ptr k0 0 0 ∧ ∀ i', i' ∈ i :: vis → ∀ (k v : AV), es'[i']? = some (k, v) → G k v := by
        rintro D ⟨g1, g2, g3⟩
        refine ⟨g3, g2, ?_, fun i' hi' k' v' he => ?_⟩
        · rcases g2 it with e | e
          · rw [lk_cons, if_pos rfl] at e; cases e
          · rw [lk_cons, if_pos rfl] at e; exact e.symm
        · rcases List.mem_cons.1 hi' with rfl | hi'
          · rw [hes] at he; cases he; exact g1
          · exact h4 i' hi' k' v' he
      rintro e D ⟨n', hq⟩
      cases e with
      | normal => exact again D hq
      | exit j =>
        have hq : (if j = b2 then G k v ∧ Sub ((it, .ptr k0 0 0) :: L) D.T ∧ D.h = h.set k0 (.dead 0) else False) := hq
        split at hq
        · rename_i e; show (if j = b2 then _ else _); rw [if_pos e]; exact again D hq
        · exact hq.elim
      | ret => exact .inl ⟨n', hq⟩
  · rintro vis B ⟨h1, h2, h3, h4⟩ hall
    have hG := cont fun i k v hi => h4 i (hall i (List.getElem?_eq_some_iff.1 hi).1) k v hi
    right
    refine ⟨T1, L1, ?_, n1, hG⟩
    show Rec m T1 L1 (up (up B.T nx .any) ok (.bool false)) B.h
    rw [h1]
    exact hrec.sub (hf ok (.inr (.inl rfl)) _ _ (hf nx (.inl rfl) _ _ h2))
end
end Go.AM
set_option linter.unusedSimpArgs false
set_option linter.unusedVariables false
namespace Go.AM
variable {P : Program}
section
variable {N : NM} {n : Nat} {d : Option Nat} {af dead : List Nat} {r : List SOper} {T : Tmps} {h : Heap} {Q : QC} {fs : List Fr}
theorem aMakeMap_new (hl : n < 1099511627775) : wM P N (aMakeMap .dyn n) d r dead fs n T h Q = if h.get n = none then wR P N r dead fs (n + 1) (putD T d (.map n 0)) (h.set n (.map 0 [])) Q else False := by
  have hl' : Nat.blt n lim = true := by simp [Nat.blt]; unfold lim; omega
  apply propext; constructor
  · rintro ⟨v', h1, hm, hk⟩
    unfold aMakeMap HM.new at hm
    simp only [HM.run] at hm
    cases hn : h.get n with
    | none =>
      rw [hn] at hm
      obtain ⟨hl, hm⟩ := run_put hm
      simp only [HM.run, Option.some.injEq, Prod.mk.injEq] at hm
      obtain ⟨rfl, rfl⟩ := hm
      rw [if_pos rfl]; exact hk
    | some z => rw [hn] at hm; cases hm
  · split
    · rename_i hn
      intro hk
      refine ⟨_, _, ?_, hk⟩
      unfold aMakeMap HM.new
      simp only [HM.run, hn]
      rw [hl']; rfl
    · exact fun h => h.elim
/-- The keys of a map of whole numbers. -/
def keyM (k : IntKind) (v : AV) (l : List Nat) : List (AV × AV) := l.map fun x : Nat => (.int k (x : Int), v)
theorem keyM_get {k : IntKind} {v : AV} {l : List Nat} {i : Nat} {a b : AV} (hi : (keyM k v l)[i]? = some (a, b)) : ∃ x : Nat, l[i]? = some x ∧ a = .int k (x : Int) ∧ b = v := by
  simp only [keyM, List.getElem?_map] at hi
  cases hx : l[i]? with
  | none => rw [hx] at hi; cases hi
  | some x => rw [hx] at hi; cases hi; exact ⟨x, rfl, rfl, rfl⟩
theorem aFind_keyM {k : IntKind} {v : AV} {x : Nat} : ∀ (l : List Nat) (i : Nat), x ∉ l → aFind false [.i] (.int k (x : Int)) (keyM k v l) i = some none
  | [], _, _ => rfl
  | y :: l, i, hx => by
    simp only [List.mem_cons, not_or] at hx
    show (match keyEq false [.i] (.int k (x : Int)) (.int k (y : Int)) with | some true => _ | some false => _ | none => _) = _
    have : keyEq false [.i] (.int k (x : Int)) (.int k (y : Int)) = some false := by
      have : ¬ (x : Int) = y := by omega
      simp [keyEq, eqCells, eqCell, this]
    rw [this]
    exact aFind_keyM l (i + 1) hx.2
theorem RnM.keyM {m : Nat} {π : Nat → Option Src} {h : Heap} {k : IntKind} {v : AV} (hv : noRef v = true) : ∀ {l : List Nat}, RnM m π h (keyM k v l) (keyM k v l)
  | [] => trivial
  | x :: l => ⟨⟨Rn.same rfl, Rn.same hv⟩, RnM.keyM hv (l := l)⟩
/-- An entry put into a map. -/
def wU (P : Program) (N : NM) (o : Option Blk) (b g : Nat) (k v : AV) (d : Option Nat) (ops : List SOper) (dead : List Nat) (fs : List Fr) (n : Nat) (T : Tmps) (h : Heap) (Q : QC) : Prop :=
  ∃ es, o = some (.map g es) ∧ aFind false [.i] k es 0 = some none ∧ b < lim ∧ wR P N ops dead fs (n + 1) (putD T d .any) (h.set b (.map g (es ++ [(k, v)]))) Q
theorem aMapUpd_new {k : IntKind} {x : Int} {b g : Nat} {v : AV} (hu : wU P N (h.get b) b g (.int k x) v d r dead fs n T h Q) : wM P N (aMapUpd false [.i] (.map b g) (.int k x) v) d r dead fs n T h Q := by
  obtain ⟨es, hb, hf, hl, hk⟩ := hu
  refine ⟨_, _, ?_, hk⟩
  have hok : keyOK false [.i] (.int k x) = true := by simp [keyOK, keyEq, eqCells, eqCell]
  have hl' : Nat.blt b lim = true := by simp [Nat.blt]; exact hl
  have hg : Nat.beq g g = true := by simp
  unfold aMapUpd
  rw [if_pos hok]
  simp only [HM.entries, HM.run, hb, hg, cond_true, hf, hl']
theorem wU_ins {k : IntKind} {x : Nat} {l : List Nat} {b g : Nat} {u : AV} (hx : x ∉ l) (hl : b < 1099511627775) (hk : wR P N r dead fs (n + 1) (putD T d .any) (h.set b (.map g (keyM k u (l ++ [x])))) Q) :
    wU P N (some (.map g (keyM k u l))) b g (.int k (x : Int)) u d r dead fs n T h Q :=
by
  have e : keyM k u l ++ [(.int k (x : Int), u)] = keyM k u (l ++ [x]) := by simp [keyM]
  have hl' : b < lim := hl
  rw [← e] at hk
  exact ⟨_, rfl, aFind_keyM l 0 hx, hl', hk⟩
end
/-- A frozen row of cells. -/
def wZ (P : Program) (N : NM) (o : Option (List AV)) (k len sz : Nat) (d : Option Nat) (ops : List SOper) (dead : List Nat) (fs : List Fr) (n : Nat) (T : Tmps) (h : Heap) (Q : QC) : Prop :=
  ∃ cs, o = some cs ∧ cs.length = k ∧ cs.all AV.one = true ∧ wR P N ops dead fs (n + 1) (putD T d (.fsl cs len sz)) h Q
theorem wZ_some {N : NM} {n : Nat} {d : Option Nat} {dead : List Nat} {r : List SOper} {T : Tmps} {h : Heap} {Q : QC} {fs : List Fr} {cs : List AV} {k len sz : Nat} :
    wZ P N (some cs) k len sz d r dead fs n T h Q = if cs.length = k then (if cs.all AV.one = true then wR P N r dead fs (n + 1) (putD T d (.fsl cs len sz)) h Q else False) else False := by
  by_cases h1 : cs.length = k <;> by_cases h2 : cs.all AV.one = true <;> simp only [wZ, h1, h2, if_true, if_false, Option.some.injEq, exists_eq_left', true_and, false_and] <;> simp [h1, h2]
theorem aBuildSlice_frz {N : NM} {n : Nat} {d : Option Nat} {dead : List Nat} {r : List SOper} {T : Tmps} {h : Heap} {Q : QC} {fs : List Fr} {s : Site} {sz len : Nat} {z : List AV} {ps : List (Nat × Nat × AV)} :
    wM P N (aBuildSlice true s n sz len z ps) d r dead fs n T h Q = wZ P N (fillA z ps) (len * sz) len sz d r dead fs n T h Q := by
  unfold aBuildSlice
  cases fillA z ps with
  | none => simp [wM_fail, wZ]
  | some cs =>
    simp only [wZ_some, if_true]
    split
    · split
      · exact wM_ret
      · exact wM_fail
    · exact wM_fail
theorem wordsM : AV.nilmap.boxable = true ∧ AV.nilmap.cells = [.nilmap] ∧ (∀ b g, (AV.map b g).cells = [.map b g]) ∧ (∀ b g, (AV.map b g).one = true) ∧ (∀ b g, (AV.map b g).boxable = true) ∧ AV.nilmap.one = true :=
  ⟨rfl, rfl, fun _ _ => rfl, fun _ _ => rfl, fun _ _ => rfl, rfl⟩
theorem or16 {x y : Nat} (hx : x < 65536) (hy : y < 65536) : aBin .or (.int .u16 (x : Int)) (.int .u16 (y : Int)) = some (.int .u16 ((x ||| y : Nat) : Int)) := by
  have h1 : (BitVec.ofInt 16 (x : Int) ||| BitVec.ofInt 16 (y : Int)).toNat = x ||| y := by
    have e1 : BitVec.ofInt 16 (x : Int) = BitVec.ofNat 16 x := by simp
    have e2 : BitVec.ofInt 16 (y : Int) = BitVec.ofNat 16 y := by simp
    rw [e1, e2, BitVec.toNat_or, BitVec.toNat_ofNat, BitVec.toNat_ofNat, Nat.mod_eq_of_lt (by omega), Nat.mod_eq_of_lt (by omega)]
  have h2 : x ||| y < 2 ^ 16 := Nat.or_lt_two_pow (by omega) (by omega)
  have e2 : aBin .or (.int .u16 (x : Int)) (.int .u16 (y : Int)) = some (.int .u16 (wr .u16 ((BitVec.ofInt 16 (x : Int) ||| BitVec.ofInt 16 (y : Int)).toNat : Int))) := rfl
  rw [e2, h1, wr_u16 (by omega) (by omega)]
theorem and16 {x y : Nat} (hx : x < 65536) (hy : y < 65536) : aBin .and (.int .u16 (x : Int)) (.int .u16 (y : Int)) = some (.int .u16 ((x &&& y : Nat) : Int)) := by
  have h1 : (BitVec.ofInt 16 (x : Int) &&& BitVec.ofInt 16 (y : Int)).toNat = x &&& y := by
    have e1 : BitVec.ofInt 16 (x : Int) = BitVec.ofNat 16 x := by simp
    have e2 : BitVec.ofInt 16 (y : Int) = BitVec.ofNat 16 y := by simp
    rw [e1, e2, BitVec.toNat_and, BitVec.toNat_ofNat, BitVec.toNat_ofNat, Nat.mod_eq_of_lt (by omega), Nat.mod_eq_of_lt (by omega)]
  have h2 : x &&& y < 2 ^ 16 := Nat.and_lt_two_pow x (by omega)
  have e2 : aBin .and (.int .u16 (x : Int)) (.int .u16 (y : Int)) = some (.int .u16 (wr .u16 ((BitVec.ofInt 16 (x : Int) &&& BitVec.ofInt 16 (y : Int)).toNat : Int))) := rfl
  rw [e2, h1, wr_u16 (by omega) (by omega)]
theorem shl16 {c : Nat} {k : IntKind} (hc : c < 16) : aBin .shl (.int .u16 1) (.int k (c : Int)) = some (.int .u16 ((1 <<< c : Nat) : Int)) := by
  have h0 : ¬ (c : Int) < 0 := by omega
  have h1 : 1 <<< c < 65536 := by
    rw [Nat.shiftLeft_eq, Nat.one_mul]
    exact Nat.lt_of_lt_of_le (Nat.pow_lt_pow_right (by decide) hc) (by decide)
  have e2 : aBin .shl (.int .u16 1) (.int k (c : Int)) = if (c : Int) < 0 then none else some (.int .u16 (wr .u16 (1 * 2 ^ (min (c : Int).toNat 16)))) := rfl
  have e3 : (1 * 2 ^ (min (c : Int).toNat 16) : Int) = ((1 <<< c : Nat) : Int) := by
    rw [Int.toNat_natCast, Nat.min_eq_left (show c ≤ 16 by omega), Nat.shiftLeft_eq]
    simp
  have h3 : wr .u16 ((1 <<< c : Nat) : Int) = ((1 <<< c : Nat) : Int) := by
    generalize 1 <<< c = z at h1
    exact wr_u16 (by omega) (by omega)
  rw [e2, if_neg h0, e3, h3]
theorem shl_lt {c : Nat} (hc : c < 16) : 1 <<< c < 65536 := by
  rw [Nat.shiftLeft_eq, Nat.one_mul]
  exact Nat.lt_of_lt_of_le (Nat.pow_lt_pow_right (by decide) hc) (by decide)
/-- The state at the end, read anew, is the caller's blocks asx told of. -/
theorem HSpec.of_rec {f m : Nat} {sf : SFn} {args : List AV} {L0 L : HL} {v : AV} (n : Nat) (hok : okFn P f sf = true) (hl : Nat.ble args.length sf.n = true) (hm : (Nat.ble m 1099511627775 && L0.all fun p => Nat.blt p.1 m) = true)
    (hv : noRef v = true) (hw : wS P ⟨sf.n, m⟩ sf.body [] n (argT 0 args) (hp L0) fun e T k _ => (e = .normal ∨ e = .ret) ∧ ∃ vs, resV T k sf.res = some vs ∧ resOf vs = v ∧ Rec m [] L T k) : HSpec P f args (hp L0) v (hp L) := by
  simp only [Bool.and_eq_true, Nat.ble_eq] at hm
  refine HSpec.of_W2 hok (Nat.le_of_ble_eq_true hl) (fun b hb => ?_) ((wpC.toW hw).mono ?_)
  · have : ∀ M : HL, M.all (fun p => Nat.blt p.1 m) = true → (hp M).get b = none := by
      intro M
      induction M with
      | nil => intro _; exact get_e
      | cons q M ih =>
        obtain ⟨j, x⟩ := q
        intro hM
        simp only [List.all_cons, Bool.and_eq_true, Nat.blt, Nat.ble_eq] at hM
        rw [hp_cons, get_ne (by omega) (by omega)]; exact ih (by simpa [Nat.blt] using hM.2)
    exact this L0 hm.2
  · rintro e B ⟨n', h1, vs, h2, h3, ps, ho, hro, hb, ht⟩
    exact ⟨h1, vs, _, h2, Rec.maps ho hb, Rec.heap ho hb, Rec.dom ho hro, by rw [h3]; exact Rn.same hv⟩
end Go.AM
namespace Go.AM.SN
open Go.Proofs Go.AM.SK
set_option maxRecDepth 100000
set_option linter.unusedSimpArgs false
set_option linter.unusedVariables false
-- NA: noRef_net, noRef_sli, noRef_lsts, noRef_arcs, noRef_tns, noRef_tab
-- NR: noRefs_flat10, noRefs_ints, noRefs_lsts, noRefs_pad, noRefs_tnC, noRefs_arcC, noRefs_rowF, noRefs_flowC
/-- A flow: its support asx bits, its weights. -/
abbrev Flow := Nat × (Nat → Int)
def flowC (F : List Flow) : List AV := F.flatMap fun f => .int .u16 f.1 :: rowF 10 f.2
def supOf (set : List Nat) : Nat := set.foldl (fun a c => a ||| 1 <<< c) 0
def scat (set : List Nat) (l : List Int) : Nat → Int := (set.zip l).foldl (fun f p => fun c => if c = p.1 then p.2 else f c) fun _ => 0
def visitR (R : List (List Int)) (F : List Flow) (set : List Nat) : List Flow :=
  if (F.any fun f => decide (f.1 &&& supOf set = f.1)) = true then F else
  match kerR R set with
  | none => F
  | some l => if (l.any fun x => decide (x < 0)) = true then F else F ++ [(supOf set, scat set l)]
theorem noRefs_flowC (F : List Flow) : noRefs (flowC F) = true := by
  induction F with
  | nil => rfl
  | cons f F ih =>
    unfold flowC at ih ⊢
    rw [List.flatMap_cons, noRefs_append, ih]
    simp only [noRefs, noRef, noRefs_rowF]; rfl
theorem flowC_len (F : List Flow) : (flowC F).length = F.length * 11 := by
  induction F with
  | nil => rfl
  | cons f F ih =>
    unfold flowC at ih ⊢
    rw [List.flatMap_cons, List.length_append, ih, List.length_cons, rowF_len, List.length_cons]; omega
theorem supOf_take {set : List Nat} {i c : Nat} (h : set[i]? = some c) : supOf (set.take (i + 1)) = supOf (set.take i) ||| 1 <<< c := by
  unfold supOf
  rw [List.take_add_one, List.foldl_append, h]; rfl
theorem supOf_lt {set : List Nat} (h : ∀ c ∈ set, c < 16) : supOf set < 65536 := by
  unfold supOf
  have : ∀ (l : List Nat) (a : Nat), (∀ c ∈ l, c < 16) → a < 65536 → l.foldl (fun a c => a ||| 1 <<< c) a < 65536 := by
    intro l
    induction l with
    | nil => intro a _ ha; exact ha
    | cons c l ih =>
      intro a hl ha
      rw [List.foldl_cons]
      have := shl_lt (hl c (by simp))
      exact ih _ (fun c hc => hl c (by simp [hc])) (Nat.or_lt_two_pow (n := 16) ha this)
  exact this set 0 h (by decide)
theorem neg63 (x : Int) : PSpec Try.prog 63 [.int .i64 x] (.bool (decide (x < 0))) := by
  refine PSpec.of_flat 64 SK.ok63 rfl rfl rfl ?_
  simp (config := { maxSteps := 1000000 }) (disch := first | omega | (simp only [List.length_map, List.length_append, List.length_cons, List.length_nil, ints_len] <;> omega)) only [SK.s63, wordsN, Int.reduceGT, wordsR, ne_eq, words, Nat.reduceAdd, Nat.reduceEqDiff, Nat.reduceBEq, ↓reduceIte, reduceCtorEq, SX.exit.injEq, if_true, if_false, Int.reduceAdd, Int.reduceSub, Int.reduceMul, Int.reduceLT, Int.reduceLE, Int.reduceEq, Int.reduceNe, Int.reduceNeg, Int.reduceToNat, Nat.reduceMul, Nat.reduceLT, Nat.reduceSub, Nat.reduceLeDiff]
  exact ⟨.inr trivial, _, rfl, rfl⟩
theorem index75 (l : List Int) (hl : l.length ≤ 1000) : PSpec Try.prog 75 [sli l, .fn 63 [] []] (.int .i64 (firstAt (fun x => decide (x < 0)) l)) := by
  refine PSpec.of_flat 64 SK.ok75 rfl (by simp [noRefs, noRef, noRefs_ints]) rfl ?_
  simp (config := { maxSteps := 1000000 }) (disch := first | omega | (simp only [List.length_map, List.length_append, List.length_cons, List.length_nil, ints_len] <;> omega)) only [SK.s75, wordsN, Int.reduceGT, wordsR, ne_eq, words, Nat.reduceAdd, Nat.reduceEqDiff, Nat.reduceBEq, ↓reduceIte, reduceCtorEq, SX.exit.injEq, if_true, if_false, Int.reduceAdd, Int.reduceSub, Int.reduceMul, Int.reduceLT, Int.reduceLE, Int.reduceEq, Int.reduceNe, Int.reduceNeg, Int.reduceToNat, Nat.reduceMul, Nat.reduceLT, Nat.reduceSub, Nat.reduceLeDiff]
  refine wS_loopR 100 (fun i : Nat => [(0, sli l), (1, .fn 63 [] []), (7, .int .i64 l.length), (8, .int .i64 i)]) (fun _ => []) (fun i => i ≤ l.length ∧ ∀ j y, j < i → l[j]? = some y → (decide (y < 0)) = false) (fun i => l.length - i) 0 ⟨[], rfl, (by repeat (first | exact RO.zero | exact RO.e | refine RO.set rfl ?_)), (by repeat' (first | exact RB.nil | (refine RnL.same ?_; first | rfl | (simp only [noRef, noRefs, noRefs_append, Bool.and_self, Bool.and_true, Bool.true_and, noRefs_flat10, noRefs_ints, noRefs_lsts, noRefs_pad, noRefs_tnC, noRefs_arcC, noRefs_rowF, noRefs_flowC]; done)) | exact RnM.keyM rfl | exact RnL.nil | refine RnL.cons ?_ ?_ | (refine Rn.same ?_; first | rfl | (simp only [noRef, noRefs, noRefs_append, Bool.and_self, Bool.and_true, Bool.true_and, noRefs_flat10, noRefs_ints, noRefs_lsts, noRefs_pad, noRefs_tnC, noRefs_arcC, noRefs_rowF, noRefs_flowC]; done)) | exact Rn.sl (Nat.le_of_ble_eq_true rfl) rfl | exact Rn.ptr (Nat.le_of_ble_eq_true rfl) rfl | exact Rn.map (Nat.le_of_ble_eq_true rfl) rfl | exact Rn.slnil (Nat.le_of_ble_eq_true rfl) rfl | exact Rn.slB (Nat.le_of_ble_eq_true rfl) | exact Rn.ptrB (Nat.le_of_ble_eq_true rfl) | exact Rn.mapB (Nat.le_of_ble_eq_true rfl) | refine RB.newnil rfl rfl ?_ | refine RB.cells rfl rfl rfl ?_ ?_ | refine RB.map rfl rfl rfl ?_ ?_ | refine RB.cellsB rfl rfl ?_ ?_ | refine RB.mapB rfl rfl ?_ ?_)), (by repeat (first | exact RT.nil | (refine RT.cons ?_ ?_; · (first | exact Rn.any | exact Rn.sl (Nat.le_of_ble_eq_true rfl) rfl | exact Rn.ptr (Nat.le_of_ble_eq_true rfl) rfl | exact Rn.map (Nat.le_of_ble_eq_true rfl) rfl | exact Rn.slnil (Nat.le_of_ble_eq_true rfl) rfl | exact Rn.slB (Nat.le_of_ble_eq_true rfl) | exact Rn.ptrB (Nat.le_of_ble_eq_true rfl) | exact Rn.mapB (Nat.le_of_ble_eq_true rfl) | (refine Rn.slot ?_ ?_; (first | rfl | (rw [Int.natCast_add]; rfl)); (first | rfl | (simp only [noRef, noRefs, noRefs_append, Bool.and_self, Bool.and_true, Bool.true_and, noRefs_flat10, noRefs_ints, noRefs_lsts, noRefs_pad, noRefs_tnC, noRefs_arcC, noRefs_rowF, noRefs_flowC]; done))) | (refine Rn.fn ?_ ?_ <;> (repeat' (first | exact RnL.nil | refine RnL.cons ?_ ?_ | exact Rn.same rfl | exact Rn.ptrB (Nat.le_of_ble_eq_true rfl) | exact Rn.ptr (Nat.le_of_ble_eq_true rfl) rfl | exact Rn.slB (Nat.le_of_ble_eq_true rfl) | exact Rn.sl (Nat.le_of_ble_eq_true rfl) rfl)))))))⟩ ⟨Nat.zero_le _, fun j y hj => absurd hj (Nat.not_lt_zero _)⟩ ?_
  rintro i ⟨hi, hb⟩
  by_cases hlt : i < l.length
  · obtain ⟨x, hx⟩ := get_ex hlt
    simp (config := { maxSteps := 1000000 }) (disch := first | omega | (simp only [List.length_map, List.length_append, List.length_cons, List.length_nil, ints_len] <;> omega)) only [hlt, head_ints hx, wordsN, Int.reduceGT, wordsR, ne_eq, words, Nat.reduceAdd, Nat.reduceEqDiff, Nat.reduceBEq, ↓reduceIte, reduceCtorEq, SX.exit.injEq, if_true, if_false, Int.reduceAdd, Int.reduceSub, Int.reduceMul, Int.reduceLT, Int.reduceLE, Int.reduceEq, Int.reduceNe, Int.reduceNeg, Int.reduceToNat, Nat.reduceMul, Nat.reduceLT, Nat.reduceSub, Nat.reduceLeDiff]
    refine cp (neg63 x) ?_
    cases hp : decide (x < 0) with
    | true =>
      simp (config := { maxSteps := 1000000 }) (disch := first | omega | (simp only [List.length_map, List.length_append, List.length_cons, List.length_nil, ints_len] <;> omega)) only [wordsN, Int.reduceGT, wordsR, ne_eq, words, Nat.reduceAdd, Nat.reduceEqDiff, Nat.reduceBEq, ↓reduceIte, reduceCtorEq, SX.exit.injEq, if_true, if_false, Int.reduceAdd, Int.reduceSub, Int.reduceMul, Int.reduceLT, Int.reduceLE, Int.reduceEq, Int.reduceNe, Int.reduceNeg, Int.reduceToNat, Nat.reduceMul, Nat.reduceLT, Nat.reduceSub, Nat.reduceLeDiff]
      exact ⟨.inr trivial, _, rfl, by rw [firstAt_found (p := fun x => decide (x < 0)) hx hp hb]; rfl⟩
    | false =>
      simp (config := { maxSteps := 1000000 }) (disch := first | omega | (simp only [List.length_map, List.length_append, List.length_cons, List.length_nil, ints_len] <;> omega)) only [wordsN, Int.reduceGT, wordsR, ne_eq, words, Nat.reduceAdd, Nat.reduceEqDiff, Nat.reduceBEq, ↓reduceIte, reduceCtorEq, SX.exit.injEq, if_true, if_false, Int.reduceAdd, Int.reduceSub, Int.reduceMul, Int.reduceLT, Int.reduceLE, Int.reduceEq, Int.reduceNe, Int.reduceNeg, Int.reduceToNat, Nat.reduceMul, Nat.reduceLT, Nat.reduceSub, Nat.reduceLeDiff]
      refine ⟨i + 1, by omega, ⟨by omega, fun j y hj hy => ?_⟩, ⟨[], rfl, (by repeat (first | exact RO.zero | exact RO.e | refine RO.set rfl ?_)), (by repeat' (first | exact RB.nil | (refine RnL.same ?_; first | rfl | (simp only [noRef, noRefs, noRefs_append, Bool.and_self, Bool.and_true, Bool.true_and, noRefs_flat10, noRefs_ints, noRefs_lsts, noRefs_pad, noRefs_tnC, noRefs_arcC, noRefs_rowF, noRefs_flowC]; done)) | exact RnM.keyM rfl | exact RnL.nil | refine RnL.cons ?_ ?_ | (refine Rn.same ?_; first | rfl | (simp only [noRef, noRefs, noRefs_append, Bool.and_self, Bool.and_true, Bool.true_and, noRefs_flat10, noRefs_ints, noRefs_lsts, noRefs_pad, noRefs_tnC, noRefs_arcC, noRefs_rowF, noRefs_flowC]; done)) | exact Rn.sl (Nat.le_of_ble_eq_true rfl) rfl | exact Rn.ptr (Nat.le_of_ble_eq_true rfl) rfl | exact Rn.map (Nat.le_of_ble_eq_true rfl) rfl | exact Rn.slnil (Nat.le_of_ble_eq_true rfl) rfl | exact Rn.slB (Nat.le_of_ble_eq_true rfl) | exact Rn.ptrB (Nat.le_of_ble_eq_true rfl) | exact Rn.mapB (Nat.le_of_ble_eq_true rfl) | refine RB.newnil rfl rfl ?_ | refine RB.cells rfl rfl rfl ?_ ?_ | refine RB.map rfl rfl rfl ?_ ?_ | refine RB.cellsB rfl rfl ?_ ?_ | refine RB.mapB rfl rfl ?_ ?_)), (by repeat (first | exact RT.nil | (refine RT.cons ?_ ?_; · (first | exact Rn.any | exact Rn.sl (Nat.le_of_ble_eq_true rfl) rfl | exact Rn.ptr (Nat.le_of_ble_eq_true rfl) rfl | exact Rn.map (Nat.le_of_ble_eq_true rfl) rfl | exact Rn.slnil (Nat.le_of_ble_eq_true rfl) rfl | exact Rn.slB (Nat.le_of_ble_eq_true rfl) | exact Rn.ptrB (Nat.le_of_ble_eq_true rfl) | exact Rn.mapB (Nat.le_of_ble_eq_true rfl) | (refine Rn.slot ?_ ?_; (first | rfl | (rw [Int.natCast_add]; rfl)); (first | rfl | (simp only [noRef, noRefs, noRefs_append, Bool.and_self, Bool.and_true, Bool.true_and, noRefs_flat10, noRefs_ints, noRefs_lsts, noRefs_pad, noRefs_tnC, noRefs_arcC, noRefs_rowF, noRefs_flowC]; done))) | (refine Rn.fn ?_ ?_ <;> (repeat' (first | exact RnL.nil | refine RnL.cons ?_ ?_ | exact Rn.same rfl | exact Rn.ptrB (Nat.le_of_ble_eq_true rfl) | exact Rn.ptr (Nat.le_of_ble_eq_true rfl) rfl | exact Rn.slB (Nat.le_of_ble_eq_true rfl) | exact Rn.sl (Nat.le_of_ble_eq_true rfl) rfl)))))))⟩⟩
      by_cases e : j = i
      · subst e; rw [hx] at hy; cases hy; exact of_decide_eq_false hp
      · exact of_decide_eq_false (hb j y (by omega) hy)
  · simp (config := { maxSteps := 1000000 }) (disch := first | omega | (simp only [List.length_map, List.length_append, List.length_cons, List.length_nil, ints_len] <;> omega)) only [hlt, wordsN, Int.reduceGT, wordsR, ne_eq, words, Nat.reduceAdd, Nat.reduceEqDiff, Nat.reduceBEq, ↓reduceIte, reduceCtorEq, SX.exit.injEq, if_true, if_false, Int.reduceAdd, Int.reduceSub, Int.reduceMul, Int.reduceLT, Int.reduceLE, Int.reduceEq, Int.reduceNe, Int.reduceNeg, Int.reduceToNat, Nat.reduceMul, Nat.reduceLT, Nat.reduceSub, Nat.reduceLeDiff]
    exact ⟨.inr trivial, _, rfl, by rw [firstAt_none fun j y hy => hb j y (by have := (List.getElem?_eq_some_iff.1 hy).1; omega) hy]; rfl⟩
theorem contains62 (l : List Int) (hl : l.length ≤ 1000) : PSpec Try.prog 62 [sli l, .fn 63 [] []] (.bool (l.any fun x => decide (x < 0))) := by
  refine PSpec.of_flat 64 SK.ok62 rfl (by simp [noRefs, noRef, noRefs_ints]) rfl ?_
  simp (config := { maxSteps := 1000000 }) (disch := first | omega | (simp only [List.length_map, List.length_append, List.length_cons, List.length_nil, ints_len] <;> omega)) only [SK.s62, wordsN, Int.reduceGT, wordsR, ne_eq, words, Nat.reduceAdd, Nat.reduceEqDiff, Nat.reduceBEq, ↓reduceIte, reduceCtorEq, SX.exit.injEq, if_true, if_false, Int.reduceAdd, Int.reduceSub, Int.reduceMul, Int.reduceLT, Int.reduceLE, Int.reduceEq, Int.reduceNe, Int.reduceNeg, Int.reduceToNat, Nat.reduceMul, Nat.reduceLT, Nat.reduceSub, Nat.reduceLeDiff]
  refine cp (index75 l hl) ?_
  simp (config := { maxSteps := 1000000 }) (disch := first | omega | (simp only [List.length_map, List.length_append, List.length_cons, List.length_nil, ints_len] <;> omega)) only [firstAt_ge, wordsN, Int.reduceGT, wordsR, ne_eq, words, Nat.reduceAdd, Nat.reduceEqDiff, Nat.reduceBEq, ↓reduceIte, reduceCtorEq, SX.exit.injEq, if_true, if_false, Int.reduceAdd, Int.reduceSub, Int.reduceMul, Int.reduceLT, Int.reduceLE, Int.reduceEq, Int.reduceNe, Int.reduceNeg, Int.reduceToNat, Nat.reduceMul, Nat.reduceLT, Nat.reduceSub, Nat.reduceLeDiff]
  exact ⟨.inr trivial, _, rfl, rfl⟩
theorem ker_len {R : List (List Int)} {cols : List Nat} {l : List Int} (h : kerR R cols = some l) : l.length = cols.length := by
  unfold kerR at h
  cases hs : krun R cols cols.length with
  | none => rw [hs] at h; cases h
  | some s =>
    rw [hs] at h
    have h : kfin cols.length s = some l := h
    unfold kfin at h
    split at h
    · cases h
    · split at h
      · cases h
      · cases h; simp
/-- The blocks of the search. -/
def vH (K : Nat) (R : List (List Int)) (F : List Flow) (g : Nat) : HL :=
  [(20, .cells 0 [.sl 23 g 0 F.length 11]), (21, .cells 0 [.map 22 0]), (22, .map 0 (keyM .u16 (.bool true) (F.map (·.1)))), (23, .cells g (flowC F)), (24, .cells 0 [.int .i64 K, .fsl (R.flatMap pad) R.length 10])]
def vS (K : Nat) (R : List (List Int)) (F : List Flow) (g : Nat) (set : List Nat) : HL :=
  [(20, .cells 0 [.sl 23 g 0 F.length 11]), (21, .cells 0 [.map 22 0]), (22, .map 0 (keyM .u16 (.bool true) (F.map (·.1)))), (23, .cells g (flowC F)), (24, .cells 0 [.int .i64 K, .fsl (R.flatMap pad) R.length 10]), (150, .cells 0 (ints (colI set)))]
def vW (K : Nat) (R : List (List Int)) (F : List Flow) (g : Nat) (set : List Nat) (f : Nat → Int) : HL :=
  [(20, .cells 0 [.sl 23 g 0 F.length 11]), (21, .cells 0 [.map 22 0]), (22, .map 0 (keyM .u16 (.bool true) (F.map (·.1)))), (23, .cells g (flowC F)), (24, .cells 0 [.int .i64 K, .fsl (R.flatMap pad) R.length 10]), (150, .cells 0 (ints (colI set))), (210, .cells 0 (.int .u16 (supOf set : Nat) :: rowF 10 f))]
theorem scat_take {set : List Nat} {l : List Int} {i c : Nat} {x : Int} (h : set[i]? = some c) (hx : l[i]? = some x) : scat (set.take (i + 1)) (l.take (i + 1)) = fun j => if j = c then x else scat (set.take i) (l.take i) j := by
  unfold scat
  have e : ∀ n, (set.take n).zip (l.take n) = (set.zip l).take n := fun n => by rw [List.zip_eq_zipWith, List.zip_eq_zipWith, List.take_zipWith]
  have hz : (set.zip l)[i]? = some (c, x) := by rw [List.zip_eq_zipWith, List.getElem?_zipWith, h, hx]
  rw [e, e, List.take_add_one, List.foldl_append, hz]
  rfl
set_option maxHeartbeats 8000000 in
theorem visit (K : Nat) (R : List (List Int)) (F : List Flow) (g : Nat) (set : List Nat) (hK : K ≤ 10) (hR : R.length ≤ 100) (hRk : ∀ r ∈ R, r.length = K) (hc : ∀ c ∈ set, c < K) (hn : set.length ≤ 10) (hb : KBd R set)
    (hF : F.length ≤ 1000) (hFs : ∀ f ∈ F, f.1 < 65536) :
    HSpec Try.prog 60 [.sl 150 0 0 set.length 1, .ptr 21 0 0, .ptr 24 0 0, .ptr 20 0 0] (hp (vS K R F g set)) (.tup [])
      (hp (vS K R (visitR R F set) (g + ((visitR R F set).length - F.length)) set)) := by
  refine HSpec.of_rec (m := 200) 300 SM.ok60 rfl rfl rfl ?_
  generalize hL : vS K R (visitR R F set) (g + ((visitR R F set).length - F.length)) set = L1
  have hcil := colI_len set
  have hc16 : ∀ c ∈ set, c < 16 := fun c h => by have := hc c h; omega
  have hs16 : ∀ i, supOf (set.take i) < 65536 := fun i => supOf_lt fun c h => hc16 c (List.mem_of_mem_take h)
  simp (config := { maxSteps := 1000000 }) (disch := first | omega | (simp only [List.length_map, List.length_append, List.length_cons, List.length_nil, ints_len] <;> omega)) only [SM.s60, vS, wordsN, Int.reduceGT, wordsR, ne_eq, words, Nat.reduceAdd, Nat.reduceEqDiff, Nat.reduceBEq, ↓reduceIte, reduceCtorEq, SX.exit.injEq, if_true, if_false, Int.reduceAdd, Int.reduceSub, Int.reduceMul, Int.reduceLT, Int.reduceLE, Int.reduceEq, Int.reduceNe, Int.reduceNeg, Int.reduceToNat, Nat.reduceMul, Nat.reduceLT, Nat.reduceSub, Nat.reduceLeDiff]
  refine wS_loopX 400 (fun i : Nat => [(0, .sl 150 0 0 set.length 1), (1, .ptr 21 0 0), (2, .ptr 24 0 0), (3, .ptr 20 0 0), (5, .int .u16 (supOf (set.take i) : Nat)), (14, .sl 150 0 0 set.length 1), (15, .int .i64 set.length), (16, .int .i64 i)])
    (fun _ => vS K R F g set) (fun i => i ≤ set.length) (fun i => set.length - i) 0 0 500
    (fun _ : Unit => [(0, .sl 150 0 0 set.length 1), (1, .ptr 21 0 0), (2, .ptr 24 0 0), (3, .ptr 20 0 0), (5, .int .u16 (supOf set : Nat))]) (fun _ => vS K R F g set) (fun _ => True) ⟨[(20, .blk 20 0), (21, .blk 21 0), (22, .blk 22 0), (23, .blk 23 0), (24, .blk 24 0), (150, .blk 150 0)], rfl, (by repeat (first | exact RO.zero | exact RO.e | refine RO.set rfl ?_)), (by repeat' (first | exact RB.nil | (refine RnL.same ?_; first | rfl | (simp only [noRef, noRefs, noRefs_append, Bool.and_self, Bool.and_true, Bool.true_and, noRefs_flat10, noRefs_ints, noRefs_lsts, noRefs_pad, noRefs_tnC, noRefs_arcC, noRefs_rowF, noRefs_flowC]; done)) | exact RnM.keyM rfl | exact RnL.nil | refine RnL.cons ?_ ?_ | (refine Rn.same ?_; first | rfl | (simp only [noRef, noRefs, noRefs_append, Bool.and_self, Bool.and_true, Bool.true_and, noRefs_flat10, noRefs_ints, noRefs_lsts, noRefs_pad, noRefs_tnC, noRefs_arcC, noRefs_rowF, noRefs_flowC]; done)) | exact Rn.sl (Nat.le_of_ble_eq_true rfl) rfl | exact Rn.ptr (Nat.le_of_ble_eq_true rfl) rfl | exact Rn.map (Nat.le_of_ble_eq_true rfl) rfl | exact Rn.slnil (Nat.le_of_ble_eq_true rfl) rfl | exact Rn.slB (Nat.le_of_ble_eq_true rfl) | exact Rn.ptrB (Nat.le_of_ble_eq_true rfl) | exact Rn.mapB (Nat.le_of_ble_eq_true rfl) | refine RB.newnil rfl rfl ?_ | refine RB.cells rfl rfl rfl ?_ ?_ | refine RB.map rfl rfl rfl ?_ ?_ | refine RB.cellsB rfl rfl ?_ ?_ | refine RB.mapB rfl rfl ?_ ?_)), (by repeat (first | exact RT.nil | (refine RT.cons ?_ ?_; · (first | exact Rn.any | exact Rn.sl (Nat.le_of_ble_eq_true rfl) rfl | exact Rn.ptr (Nat.le_of_ble_eq_true rfl) rfl | exact Rn.map (Nat.le_of_ble_eq_true rfl) rfl | exact Rn.slnil (Nat.le_of_ble_eq_true rfl) rfl | exact Rn.slB (Nat.le_of_ble_eq_true rfl) | exact Rn.ptrB (Nat.le_of_ble_eq_true rfl) | exact Rn.mapB (Nat.le_of_ble_eq_true rfl) | (refine Rn.slot ?_ ?_; (first | rfl | (rw [Int.natCast_add]; rfl)); (first | rfl | (simp only [noRef, noRefs, noRefs_append, Bool.and_self, Bool.and_true, Bool.true_and, noRefs_flat10, noRefs_ints, noRefs_lsts, noRefs_pad, noRefs_tnC, noRefs_arcC, noRefs_rowF, noRefs_flowC]; done))) | (refine Rn.fn ?_ ?_ <;> (repeat' (first | exact RnL.nil | refine RnL.cons ?_ ?_ | exact Rn.same rfl | exact Rn.ptrB (Nat.le_of_ble_eq_true rfl) | exact Rn.ptr (Nat.le_of_ble_eq_true rfl) rfl | exact Rn.slB (Nat.le_of_ble_eq_true rfl) | exact Rn.sl (Nat.le_of_ble_eq_true rfl) rfl)))))))⟩ (Nat.zero_le _) ?_ ?_
  · intro i hi
    by_cases hlt : i < set.length
    · obtain ⟨c, hcc⟩ := get_ex hlt
      have hcl := hc16 c (List.mem_of_getElem? hcc)
      have hgi : (ints (colI set))[i]? = some (.int .i64 c) := by simp [ints, colI_get hcc]
      simp (config := { maxSteps := 1000000 }) (disch := first | omega | (simp only [List.length_map, List.length_append, List.length_cons, List.length_nil, ints_len] <;> omega)) only [hlt, hgi, vS, shl16 hcl, or16 (hs16 i) (shl_lt hcl), wordsN, Int.reduceGT, wordsR, ne_eq, words, Nat.reduceAdd, Nat.reduceEqDiff, Nat.reduceBEq, ↓reduceIte, reduceCtorEq, SX.exit.injEq, if_true, if_false, Int.reduceAdd, Int.reduceSub, Int.reduceMul, Int.reduceLT, Int.reduceLE, Int.reduceEq, Int.reduceNe, Int.reduceNeg, Int.reduceToNat, Nat.reduceMul, Nat.reduceLT, Nat.reduceSub, Nat.reduceLeDiff]
      refine ⟨i + 1, by omega, by omega, ?_⟩
      rw [supOf_take hcc]
      exact ⟨[(20, .blk 20 0), (21, .blk 21 0), (22, .blk 22 0), (23, .blk 23 0), (24, .blk 24 0), (150, .blk 150 0)], rfl, (by repeat (first | exact RO.zero | exact RO.e | refine RO.set rfl ?_)), (by repeat' (first | exact RB.nil | (refine RnL.same ?_; first | rfl | (simp only [noRef, noRefs, noRefs_append, Bool.and_self, Bool.and_true, Bool.true_and, noRefs_flat10, noRefs_ints, noRefs_lsts, noRefs_pad, noRefs_tnC, noRefs_arcC, noRefs_rowF, noRefs_flowC]; done)) | exact RnM.keyM rfl | exact RnL.nil | refine RnL.cons ?_ ?_ | (refine Rn.same ?_; first | rfl | (simp only [noRef, noRefs, noRefs_append, Bool.and_self, Bool.and_true, Bool.true_and, noRefs_flat10, noRefs_ints, noRefs_lsts, noRefs_pad, noRefs_tnC, noRefs_arcC, noRefs_rowF, noRefs_flowC]; done)) | exact Rn.sl (Nat.le_of_ble_eq_true rfl) rfl | exact Rn.ptr (Nat.le_of_ble_eq_true rfl) rfl | exact Rn.map (Nat.le_of_ble_eq_true rfl) rfl | exact Rn.slnil (Nat.le_of_ble_eq_true rfl) rfl | exact Rn.slB (Nat.le_of_ble_eq_true rfl) | exact Rn.ptrB (Nat.le_of_ble_eq_true rfl) | exact Rn.mapB (Nat.le_of_ble_eq_true rfl) | refine RB.newnil rfl rfl ?_ | refine RB.cells rfl rfl rfl ?_ ?_ | refine RB.map rfl rfl rfl ?_ ?_ | refine RB.cellsB rfl rfl ?_ ?_ | refine RB.mapB rfl rfl ?_ ?_)), (by repeat (first | exact RT.nil | (refine RT.cons ?_ ?_; · (first | exact Rn.any | exact Rn.sl (Nat.le_of_ble_eq_true rfl) rfl | exact Rn.ptr (Nat.le_of_ble_eq_true rfl) rfl | exact Rn.map (Nat.le_of_ble_eq_true rfl) rfl | exact Rn.slnil (Nat.le_of_ble_eq_true rfl) rfl | exact Rn.slB (Nat.le_of_ble_eq_true rfl) | exact Rn.ptrB (Nat.le_of_ble_eq_true rfl) | exact Rn.mapB (Nat.le_of_ble_eq_true rfl) | (refine Rn.slot ?_ ?_; (first | rfl | (rw [Int.natCast_add]; rfl)); (first | rfl | (simp only [noRef, noRefs, noRefs_append, Bool.and_self, Bool.and_true, Bool.true_and, noRefs_flat10, noRefs_ints, noRefs_lsts, noRefs_pad, noRefs_tnC, noRefs_arcC, noRefs_rowF, noRefs_flowC]; done))) | (refine Rn.fn ?_ ?_ <;> (repeat' (first | exact RnL.nil | refine RnL.cons ?_ ?_ | exact Rn.same rfl | exact Rn.ptrB (Nat.le_of_ble_eq_true rfl) | exact Rn.ptr (Nat.le_of_ble_eq_true rfl) rfl | exact Rn.slB (Nat.le_of_ble_eq_true rfl) | exact Rn.sl (Nat.le_of_ble_eq_true rfl) rfl)))))))⟩
    · have e : i = set.length := by omega
      subst e
      rw [List.take_length]
      simp (config := { maxSteps := 1000000 }) (disch := first | omega | (simp only [List.length_map, List.length_append, List.length_cons, List.length_nil, ints_len] <;> omega)) only [hlt, vS, wordsN, Int.reduceGT, wordsR, ne_eq, words, Nat.reduceAdd, Nat.reduceEqDiff, Nat.reduceBEq, ↓reduceIte, reduceCtorEq, SX.exit.injEq, if_true, if_false, Int.reduceAdd, Int.reduceSub, Int.reduceMul, Int.reduceLT, Int.reduceLE, Int.reduceEq, Int.reduceNe, Int.reduceNeg, Int.reduceToNat, Nat.reduceMul, Nat.reduceLT, Nat.reduceSub, Nat.reduceLeDiff]
      exact ⟨(), ⟨[(20, .blk 20 0), (21, .blk 21 0), (22, .blk 22 0), (23, .blk 23 0), (24, .blk 24 0), (150, .blk 150 0)], rfl, (by repeat (first | exact RO.zero | exact RO.e | refine RO.set rfl ?_)), (by repeat' (first | exact RB.nil | (refine RnL.same ?_; first | rfl | (simp only [noRef, noRefs, noRefs_append, Bool.and_self, Bool.and_true, Bool.true_and, noRefs_flat10, noRefs_ints, noRefs_lsts, noRefs_pad, noRefs_tnC, noRefs_arcC, noRefs_rowF, noRefs_flowC]; done)) | exact RnM.keyM rfl | exact RnL.nil | refine RnL.cons ?_ ?_ | (refine Rn.same ?_; first | rfl | (simp only [noRef, noRefs, noRefs_append, Bool.and_self, Bool.and_true, Bool.true_and, noRefs_flat10, noRefs_ints, noRefs_lsts, noRefs_pad, noRefs_tnC, noRefs_arcC, noRefs_rowF, noRefs_flowC]; done)) | exact Rn.sl (Nat.le_of_ble_eq_true rfl) rfl | exact Rn.ptr (Nat.le_of_ble_eq_true rfl) rfl | exact Rn.map (Nat.le_of_ble_eq_true rfl) rfl | exact Rn.slnil (Nat.le_of_ble_eq_true rfl) rfl | exact Rn.slB (Nat.le_of_ble_eq_true rfl) | exact Rn.ptrB (Nat.le_of_ble_eq_true rfl) | exact Rn.mapB (Nat.le_of_ble_eq_true rfl) | refine RB.newnil rfl rfl ?_ | refine RB.cells rfl rfl rfl ?_ ?_ | refine RB.map rfl rfl rfl ?_ ?_ | refine RB.cellsB rfl rfl ?_ ?_ | refine RB.mapB rfl rfl ?_ ?_)), (by repeat (first | exact RT.nil | (refine RT.cons ?_ ?_; · (first | exact Rn.any | exact Rn.sl (Nat.le_of_ble_eq_true rfl) rfl | exact Rn.ptr (Nat.le_of_ble_eq_true rfl) rfl | exact Rn.map (Nat.le_of_ble_eq_true rfl) rfl | exact Rn.slnil (Nat.le_of_ble_eq_true rfl) rfl | exact Rn.slB (Nat.le_of_ble_eq_true rfl) | exact Rn.ptrB (Nat.le_of_ble_eq_true rfl) | exact Rn.mapB (Nat.le_of_ble_eq_true rfl) | (refine Rn.slot ?_ ?_; (first | rfl | (rw [Int.natCast_add]; rfl)); (first | rfl | (simp only [noRef, noRefs, noRefs_append, Bool.and_self, Bool.and_true, Bool.true_and, noRefs_flat10, noRefs_ints, noRefs_lsts, noRefs_pad, noRefs_tnC, noRefs_arcC, noRefs_rowF, noRefs_flowC]; done))) | (refine Rn.fn ?_ ?_ <;> (repeat' (first | exact RnL.nil | refine RnL.cons ?_ ?_ | exact Rn.same rfl | exact Rn.ptrB (Nat.le_of_ble_eq_true rfl) | exact Rn.ptr (Nat.le_of_ble_eq_true rfl) rfl | exact Rn.slB (Nat.le_of_ble_eq_true rfl) | exact Rn.sl (Nat.le_of_ble_eq_true rfl) rfl)))))))⟩⟩
  rintro _ -
  have hS := hs16 set.length
  rw [List.take_length] at hS
  simp (config := { maxSteps := 1000000 }) (disch := first | omega | (simp only [List.length_map, List.length_append, List.length_cons, List.length_nil, ints_len] <;> omega)) only [vS, wordsN, Int.reduceGT, wordsR, ne_eq, words, Nat.reduceAdd, Nat.reduceEqDiff, Nat.reduceBEq, ↓reduceIte, reduceCtorEq, SX.exit.injEq, if_true, if_false, Int.reduceAdd, Int.reduceSub, Int.reduceMul, Int.reduceLT, Int.reduceLE, Int.reduceEq, Int.reduceNe, Int.reduceNeg, Int.reduceToNat, Nat.reduceMul, Nat.reduceLT, Nat.reduceSub, Nat.reduceLeDiff]
  refine wS_msearch (b := 21) (g := 0) (off := 0) (cs := [.map 22 0]) (mb := 22) (mg := 0) (es := keyM .u16 (.bool true) (F.map (·.1))) 610 700 600 [(0, .sl 150 0 0 set.length 1), (1, .ptr 21 0 0), (2, .ptr 24 0 0), (3, .ptr 20 0 0), (5, .int .u16 (supOf set : Nat))]
    [(0, .sl 150 0 0 set.length 1), (1, .ptr 21 0 0), (2, .ptr 24 0 0), (3, .ptr 20 0 0), (5, .int .u16 (supOf set : Nat))] (vS K R F g set) (fun k _ => ∀ x : Nat, k = .int .u16 x → ¬ (x &&& supOf set = x))
    rfl rfl rfl rfl rfl (by decide) (by decide) (by repeat (first | exact Sub.nil | refine Sub.cons (by first | rfl | (rw [Int.natCast_add]; rfl)) ?_)) rfl (by decide) rfl ?_ ?_ ?_
  · intro i k v hi
    obtain ⟨x, hx, rfl, rfl⟩ := keyM_get hi
    have hxm := List.mem_of_getElem? hx
    have hx16 : x < 65536 := by
      obtain ⟨f, hf, rfl⟩ := List.mem_map.1 hxm
      exact hFs f hf
    by_cases he : x &&& supOf set = x
    · have hv : visitR R F set = F := by
        obtain ⟨f, hf, rfl⟩ := List.mem_map.1 hxm
        unfold visitR
        rw [if_pos (List.any_eq_true.2 ⟨f, hf, decide_eq_true he⟩)]
      rw [hv, Nat.sub_self] at hL
      simp (config := { maxSteps := 1000000 }) (disch := first | omega | (simp only [List.length_map, List.length_append, List.length_cons, List.length_nil, ints_len] <;> omega)) only [vS, and16 hx16 hS, msQ_normal, msQ_exit, msQ_ret, he, wordsN, Int.reduceGT, wordsR, ne_eq, words, Nat.reduceAdd, Nat.reduceEqDiff, Nat.reduceBEq, ↓reduceIte, reduceCtorEq, SX.exit.injEq, if_true, if_false, Int.reduceAdd, Int.reduceSub, Int.reduceMul, Int.reduceLT, Int.reduceLE, Int.reduceEq, Int.reduceNe, Int.reduceNeg, Int.reduceToNat, Nat.reduceMul, Nat.reduceLT, Nat.reduceSub, Nat.reduceLeDiff]
      refine ⟨.inr trivial, _, rfl, rfl, ?_⟩
      rw [← hL]
      exact ⟨[(20, .blk 20 0), (21, .blk 21 0), (22, .blk 22 0), (23, .blk 23 0), (24, .blk 24 0), (150, .blk 150 0)], rfl, (by repeat (first | exact RO.zero | exact RO.e | refine RO.set rfl ?_)), (by repeat' (first | exact RB.nil | (refine RnL.same ?_; first | rfl | (simp only [noRef, noRefs, noRefs_append, Bool.and_self, Bool.and_true, Bool.true_and, noRefs_flat10, noRefs_ints, noRefs_lsts, noRefs_pad, noRefs_tnC, noRefs_arcC, noRefs_rowF, noRefs_flowC]; done)) | exact RnM.keyM rfl | exact RnL.nil | refine RnL.cons ?_ ?_ | (refine Rn.same ?_; first | rfl | (simp only [noRef, noRefs, noRefs_append, Bool.and_self, Bool.and_true, Bool.true_and, noRefs_flat10, noRefs_ints, noRefs_lsts, noRefs_pad, noRefs_tnC, noRefs_arcC, noRefs_rowF, noRefs_flowC]; done)) | exact Rn.sl (Nat.le_of_ble_eq_true rfl) rfl | exact Rn.ptr (Nat.le_of_ble_eq_true rfl) rfl | exact Rn.map (Nat.le_of_ble_eq_true rfl) rfl | exact Rn.slnil (Nat.le_of_ble_eq_true rfl) rfl | exact Rn.slB (Nat.le_of_ble_eq_true rfl) | exact Rn.ptrB (Nat.le_of_ble_eq_true rfl) | exact Rn.mapB (Nat.le_of_ble_eq_true rfl) | refine RB.newnil rfl rfl ?_ | refine RB.cells rfl rfl rfl ?_ ?_ | refine RB.map rfl rfl rfl ?_ ?_ | refine RB.cellsB rfl rfl ?_ ?_ | refine RB.mapB rfl rfl ?_ ?_)), (by repeat (first | exact RT.nil | (refine RT.cons ?_ ?_; · (first | exact Rn.any | exact Rn.sl (Nat.le_of_ble_eq_true rfl) rfl | exact Rn.ptr (Nat.le_of_ble_eq_true rfl) rfl | exact Rn.map (Nat.le_of_ble_eq_true rfl) rfl | exact Rn.slnil (Nat.le_of_ble_eq_true rfl) rfl | exact Rn.slB (Nat.le_of_ble_eq_true rfl) | exact Rn.ptrB (Nat.le_of_ble_eq_true rfl) | exact Rn.mapB (Nat.le_of_ble_eq_true rfl) | (refine Rn.slot ?_ ?_; (first | rfl | (rw [Int.natCast_add]; rfl)); (first | rfl | (simp only [noRef, noRefs, noRefs_append, Bool.and_self, Bool.and_true, Bool.true_and, noRefs_flat10, noRefs_ints, noRefs_lsts, noRefs_pad, noRefs_tnC, noRefs_arcC, noRefs_rowF, noRefs_flowC]; done))) | (refine Rn.fn ?_ ?_ <;> (repeat' (first | exact RnL.nil | refine RnL.cons ?_ ?_ | exact Rn.same rfl | exact Rn.ptrB (Nat.le_of_ble_eq_true rfl) | exact Rn.ptr (Nat.le_of_ble_eq_true rfl) rfl | exact Rn.slB (Nat.le_of_ble_eq_true rfl) | exact Rn.sl (Nat.le_of_ble_eq_true rfl) rfl)))))))⟩
    · simp (config := { maxSteps := 1000000 }) (disch := first | omega | (simp only [List.length_map, List.length_append, List.length_cons, List.length_nil, ints_len] <;> omega)) only [vS, and16 hx16 hS, msQ_normal, msQ_exit, msQ_ret, he, wordsN, Int.reduceGT, wordsR, ne_eq, words, Nat.reduceAdd, Nat.reduceEqDiff, Nat.reduceBEq, ↓reduceIte, reduceCtorEq, SX.exit.injEq, if_true, if_false, Int.reduceAdd, Int.reduceSub, Int.reduceMul, Int.reduceLT, Int.reduceLE, Int.reduceEq, Int.reduceNe, Int.reduceNeg, Int.reduceToNat, Nat.reduceMul, Nat.reduceLT, Nat.reduceSub, Nat.reduceLeDiff]
      refine ⟨fun y hy hy2 => ?_, by repeat (first | exact Sub.nil | refine Sub.cons (by first | rfl | (rw [Int.natCast_add]; rfl)) ?_)⟩
      injection hy with _ hy
      have : x = y := by omega
      subst this
      exact he hy2
  · exact ⟨[(20, .blk 20 0), (21, .blk 21 0), (22, .blk 22 0), (23, .blk 23 0), (24, .blk 24 0), (150, .blk 150 0)], rfl, (by repeat (first | exact RO.zero | exact RO.e | refine RO.set rfl ?_)), (by repeat' (first | exact RB.nil | (refine RnL.same ?_; first | rfl | (simp only [noRef, noRefs, noRefs_append, Bool.and_self, Bool.and_true, Bool.true_and, noRefs_flat10, noRefs_ints, noRefs_lsts, noRefs_pad, noRefs_tnC, noRefs_arcC, noRefs_rowF, noRefs_flowC]; done)) | exact RnM.keyM rfl | exact RnL.nil | refine RnL.cons ?_ ?_ | (refine Rn.same ?_; first | rfl | (simp only [noRef, noRefs, noRefs_append, Bool.and_self, Bool.and_true, Bool.true_and, noRefs_flat10, noRefs_ints, noRefs_lsts, noRefs_pad, noRefs_tnC, noRefs_arcC, noRefs_rowF, noRefs_flowC]; done)) | exact Rn.sl (Nat.le_of_ble_eq_true rfl) rfl | exact Rn.ptr (Nat.le_of_ble_eq_true rfl) rfl | exact Rn.map (Nat.le_of_ble_eq_true rfl) rfl | exact Rn.slnil (Nat.le_of_ble_eq_true rfl) rfl | exact Rn.slB (Nat.le_of_ble_eq_true rfl) | exact Rn.ptrB (Nat.le_of_ble_eq_true rfl) | exact Rn.mapB (Nat.le_of_ble_eq_true rfl) | refine RB.newnil rfl rfl ?_ | refine RB.cells rfl rfl rfl ?_ ?_ | refine RB.map rfl rfl rfl ?_ ?_ | refine RB.cellsB rfl rfl ?_ ?_ | refine RB.mapB rfl rfl ?_ ?_)), (by repeat (first | exact RT.nil | (refine RT.cons ?_ ?_; · (first | exact Rn.any | exact Rn.sl (Nat.le_of_ble_eq_true rfl) rfl | exact Rn.ptr (Nat.le_of_ble_eq_true rfl) rfl | exact Rn.map (Nat.le_of_ble_eq_true rfl) rfl | exact Rn.slnil (Nat.le_of_ble_eq_true rfl) rfl | exact Rn.slB (Nat.le_of_ble_eq_true rfl) | exact Rn.ptrB (Nat.le_of_ble_eq_true rfl) | exact Rn.mapB (Nat.le_of_ble_eq_true rfl) | (refine Rn.slot ?_ ?_; (first | rfl | (rw [Int.natCast_add]; rfl)); (first | rfl | (simp only [noRef, noRefs, noRefs_append, Bool.and_self, Bool.and_true, Bool.true_and, noRefs_flat10, noRefs_ints, noRefs_lsts, noRefs_pad, noRefs_tnC, noRefs_arcC, noRefs_rowF, noRefs_flowC]; done))) | (refine Rn.fn ?_ ?_ <;> (repeat' (first | exact RnL.nil | refine RnL.cons ?_ ?_ | exact Rn.same rfl | exact Rn.ptrB (Nat.le_of_ble_eq_true rfl) | exact Rn.ptr (Nat.le_of_ble_eq_true rfl) rfl | exact Rn.slB (Nat.le_of_ble_eq_true rfl) | exact Rn.sl (Nat.le_of_ble_eq_true rfl) rfl)))))))⟩
  · intro hnone
    have hany : (F.any fun f => decide (f.1 &&& supOf set = f.1)) = false := by
      rw [List.any_eq_false]
      intro f hf hd
      obtain ⟨j, hj, hjl⟩ := mem_at (List.mem_map.2 ⟨f, hf, rfl⟩ : f.1 ∈ F.map (·.1))
      exact hnone j (.int .u16 (f.1 : Nat)) (.bool true) (by simp only [keyM, List.getElem?_map, hj]; rfl) f.1 rfl (of_decide_eq_true hd)
    simp (config := { maxSteps := 1000000 }) (disch := first | omega | (simp only [List.length_map, List.length_append, List.length_cons, List.length_nil, ints_len] <;> omega)) only [vS, wordsN, Int.reduceGT, wordsR, ne_eq, words, Nat.reduceAdd, Nat.reduceEqDiff, Nat.reduceBEq, ↓reduceIte, reduceCtorEq, SX.exit.injEq, if_true, if_false, Int.reduceAdd, Int.reduceSub, Int.reduceMul, Int.reduceLT, Int.reduceLE, Int.reduceEq, Int.reduceNe, Int.reduceNeg, Int.reduceToNat, Nat.reduceMul, Nat.reduceLT, Nat.reduceSub, Nat.reduceLeDiff]
    have hkf := kernelF R K set hK hR hRk hc hn hb
    rw [show sli (colI set) = .fsl (ints (colI set)) set.length 1 by rw [← hcil]] at hkf
    refine ch (HSpec.of_F (bs := [tabV K R, .fsl (ints (colI set)) set.length 1]) ?_ hkf) ?_
    · refine ⟨FrzTo.same _, FrzTo.sl (cs := ints (colI set)) rfl ?_ ?_, trivial⟩
      · simp [ints, hcil]
      · rw [List.drop_zero, List.take_of_length_le (by simp [ints, hcil])]; exact FrzL.same _
    cases hk : kerR R set with
    | none =>
      have hv : visitR R F set = F := by
        unfold visitR
        rw [hany, hk]; rfl
      rw [hv, Nat.sub_self] at hL
      unfold kerV
      simp (config := { maxSteps := 1000000 }) (disch := first | omega | (simp only [List.length_map, List.length_append, List.length_cons, List.length_nil, ints_len] <;> omega)) only [vS, wordsN, Int.reduceGT, wordsR, ne_eq, words, Nat.reduceAdd, Nat.reduceEqDiff, Nat.reduceBEq, ↓reduceIte, reduceCtorEq, SX.exit.injEq, if_true, if_false, Int.reduceAdd, Int.reduceSub, Int.reduceMul, Int.reduceLT, Int.reduceLE, Int.reduceEq, Int.reduceNe, Int.reduceNeg, Int.reduceToNat, Nat.reduceMul, Nat.reduceLT, Nat.reduceSub, Nat.reduceLeDiff]
      refine ⟨.inr trivial, _, rfl, rfl, ?_⟩
      rw [← hL]
      exact ⟨[(20, .blk 20 0), (21, .blk 21 0), (22, .blk 22 0), (23, .blk 23 0), (24, .blk 24 0), (150, .blk 150 0)], rfl, (by repeat (first | exact RO.zero | exact RO.e | refine RO.set rfl ?_)), (by repeat' (first | exact RB.nil | (refine RnL.same ?_; first | rfl | (simp only [noRef, noRefs, noRefs_append, Bool.and_self, Bool.and_true, Bool.true_and, noRefs_flat10, noRefs_ints, noRefs_lsts, noRefs_pad, noRefs_tnC, noRefs_arcC, noRefs_rowF, noRefs_flowC]; done)) | exact RnM.keyM rfl | exact RnL.nil | refine RnL.cons ?_ ?_ | (refine Rn.same ?_; first | rfl | (simp only [noRef, noRefs, noRefs_append, Bool.and_self, Bool.and_true, Bool.true_and, noRefs_flat10, noRefs_ints, noRefs_lsts, noRefs_pad, noRefs_tnC, noRefs_arcC, noRefs_rowF, noRefs_flowC]; done)) | exact Rn.sl (Nat.le_of_ble_eq_true rfl) rfl | exact Rn.ptr (Nat.le_of_ble_eq_true rfl) rfl | exact Rn.map (Nat.le_of_ble_eq_true rfl) rfl | exact Rn.slnil (Nat.le_of_ble_eq_true rfl) rfl | exact Rn.slB (Nat.le_of_ble_eq_true rfl) | exact Rn.ptrB (Nat.le_of_ble_eq_true rfl) | exact Rn.mapB (Nat.le_of_ble_eq_true rfl) | refine RB.newnil rfl rfl ?_ | refine RB.cells rfl rfl rfl ?_ ?_ | refine RB.map rfl rfl rfl ?_ ?_ | refine RB.cellsB rfl rfl ?_ ?_ | refine RB.mapB rfl rfl ?_ ?_)), (by repeat (first | exact RT.nil | (refine RT.cons ?_ ?_; · (first | exact Rn.any | exact Rn.sl (Nat.le_of_ble_eq_true rfl) rfl | exact Rn.ptr (Nat.le_of_ble_eq_true rfl) rfl | exact Rn.map (Nat.le_of_ble_eq_true rfl) rfl | exact Rn.slnil (Nat.le_of_ble_eq_true rfl) rfl | exact Rn.slB (Nat.le_of_ble_eq_true rfl) | exact Rn.ptrB (Nat.le_of_ble_eq_true rfl) | exact Rn.mapB (Nat.le_of_ble_eq_true rfl) | (refine Rn.slot ?_ ?_; (first | rfl | (rw [Int.natCast_add]; rfl)); (first | rfl | (simp only [noRef, noRefs, noRefs_append, Bool.and_self, Bool.and_true, Bool.true_and, noRefs_flat10, noRefs_ints, noRefs_lsts, noRefs_pad, noRefs_tnC, noRefs_arcC, noRefs_rowF, noRefs_flowC]; done))) | (refine Rn.fn ?_ ?_ <;> (repeat' (first | exact RnL.nil | refine RnL.cons ?_ ?_ | exact Rn.same rfl | exact Rn.ptrB (Nat.le_of_ble_eq_true rfl) | exact Rn.ptr (Nat.le_of_ble_eq_true rfl) rfl | exact Rn.slB (Nat.le_of_ble_eq_true rfl) | exact Rn.sl (Nat.le_of_ble_eq_true rfl) rfl)))))))⟩
    | some l =>
      have hll := ker_len hk
      unfold kerV
      simp (config := { maxSteps := 1000000 }) (disch := first | omega | (simp only [List.length_map, List.length_append, List.length_cons, List.length_nil, ints_len] <;> omega)) only [vS, wordsN, Int.reduceGT, wordsR, ne_eq, words, Nat.reduceAdd, Nat.reduceEqDiff, Nat.reduceBEq, ↓reduceIte, reduceCtorEq, SX.exit.injEq, if_true, if_false, Int.reduceAdd, Int.reduceSub, Int.reduceMul, Int.reduceLT, Int.reduceLE, Int.reduceEq, Int.reduceNe, Int.reduceNeg, Int.reduceToNat, Nat.reduceMul, Nat.reduceLT, Nat.reduceSub, Nat.reduceLeDiff]
      refine call_borrow rfl (contains62 l (by omega)) rfl ?_
      cases hng : l.any fun x => decide (x < 0) with
      | true =>
        have hv : visitR R F set = F := by
          unfold visitR
          rw [hany, hk]; simp only [Bool.false_eq_true, if_false, hng, if_true]
        rw [hv, Nat.sub_self] at hL
        simp (config := { maxSteps := 1000000 }) (disch := first | omega | (simp only [List.length_map, List.length_append, List.length_cons, List.length_nil, ints_len] <;> omega)) only [vS, wordsN, Int.reduceGT, wordsR, ne_eq, words, Nat.reduceAdd, Nat.reduceEqDiff, Nat.reduceBEq, ↓reduceIte, reduceCtorEq, SX.exit.injEq, if_true, if_false, Int.reduceAdd, Int.reduceSub, Int.reduceMul, Int.reduceLT, Int.reduceLE, Int.reduceEq, Int.reduceNe, Int.reduceNeg, Int.reduceToNat, Nat.reduceMul, Nat.reduceLT, Nat.reduceSub, Nat.reduceLeDiff]
        refine ⟨.inr trivial, _, rfl, rfl, ?_⟩
        rw [← hL]
        exact ⟨[(20, .blk 20 0), (21, .blk 21 0), (22, .blk 22 0), (23, .blk 23 0), (24, .blk 24 0), (150, .blk 150 0)], rfl, (by repeat (first | exact RO.zero | exact RO.e | refine RO.set rfl ?_)), (by repeat' (first | exact RB.nil | (refine RnL.same ?_; first | rfl | (simp only [noRef, noRefs, noRefs_append, Bool.and_self, Bool.and_true, Bool.true_and, noRefs_flat10, noRefs_ints, noRefs_lsts, noRefs_pad, noRefs_tnC, noRefs_arcC, noRefs_rowF, noRefs_flowC]; done)) | exact RnM.keyM rfl | exact RnL.nil | refine RnL.cons ?_ ?_ | (refine Rn.same ?_; first | rfl | (simp only [noRef, noRefs, noRefs_append, Bool.and_self, Bool.and_true, Bool.true_and, noRefs_flat10, noRefs_ints, noRefs_lsts, noRefs_pad, noRefs_tnC, noRefs_arcC, noRefs_rowF, noRefs_flowC]; done)) | exact Rn.sl (Nat.le_of_ble_eq_true rfl) rfl | exact Rn.ptr (Nat.le_of_ble_eq_true rfl) rfl | exact Rn.map (Nat.le_of_ble_eq_true rfl) rfl | exact Rn.slnil (Nat.le_of_ble_eq_true rfl) rfl | exact Rn.slB (Nat.le_of_ble_eq_true rfl) | exact Rn.ptrB (Nat.le_of_ble_eq_true rfl) | exact Rn.mapB (Nat.le_of_ble_eq_true rfl) | refine RB.newnil rfl rfl ?_ | refine RB.cells rfl rfl rfl ?_ ?_ | refine RB.map rfl rfl rfl ?_ ?_ | refine RB.cellsB rfl rfl ?_ ?_ | refine RB.mapB rfl rfl ?_ ?_)), (by repeat (first | exact RT.nil | (refine RT.cons ?_ ?_; · (first | exact Rn.any | exact Rn.sl (Nat.le_of_ble_eq_true rfl) rfl | exact Rn.ptr (Nat.le_of_ble_eq_true rfl) rfl | exact Rn.map (Nat.le_of_ble_eq_true rfl) rfl | exact Rn.slnil (Nat.le_of_ble_eq_true rfl) rfl | exact Rn.slB (Nat.le_of_ble_eq_true rfl) | exact Rn.ptrB (Nat.le_of_ble_eq_true rfl) | exact Rn.mapB (Nat.le_of_ble_eq_true rfl) | (refine Rn.slot ?_ ?_; (first | rfl | (rw [Int.natCast_add]; rfl)); (first | rfl | (simp only [noRef, noRefs, noRefs_append, Bool.and_self, Bool.and_true, Bool.true_and, noRefs_flat10, noRefs_ints, noRefs_lsts, noRefs_pad, noRefs_tnC, noRefs_arcC, noRefs_rowF, noRefs_flowC]; done))) | (refine Rn.fn ?_ ?_ <;> (repeat' (first | exact RnL.nil | refine RnL.cons ?_ ?_ | exact Rn.same rfl | exact Rn.ptrB (Nat.le_of_ble_eq_true rfl) | exact Rn.ptr (Nat.le_of_ble_eq_true rfl) rfl | exact Rn.slB (Nat.le_of_ble_eq_true rfl) | exact Rn.sl (Nat.le_of_ble_eq_true rfl) rfl)))))))⟩
      | false =>
        have hv : visitR R F set = F ++ [(supOf set, scat set l)] := by
          unfold visitR
          rw [hany, hk]; simp only [Bool.false_eq_true, if_false, hng]
        rw [hv, List.length_append, List.length_singleton, Nat.add_sub_cancel_left] at hL
        simp (config := { maxSteps := 1000000 }) (disch := first | omega | (simp only [List.length_map, List.length_append, List.length_cons, List.length_nil, ints_len] <;> omega)) only [vS, wordsN, Int.reduceGT, wordsR, ne_eq, words, Nat.reduceAdd, Nat.reduceEqDiff, Nat.reduceBEq, ↓reduceIte, reduceCtorEq, SX.exit.injEq, if_true, if_false, Int.reduceAdd, Int.reduceSub, Int.reduceMul, Int.reduceLT, Int.reduceLE, Int.reduceEq, Int.reduceNe, Int.reduceNeg, Int.reduceToNat, Nat.reduceMul, Nat.reduceLT, Nat.reduceSub, Nat.reduceLeDiff]
        refine wS_loopX 800 (fun i : Nat => [(1, .ptr 21 0 0), (3, .ptr 20 0 0), (5, .int .u16 (supOf set : Nat)), (9, sli l), (11, .ptr 210 0 0), (50, .sl 150 0 0 set.length 1), (51, .int .i64 set.length), (52, .int .i64 i)])
          (fun i => vW K R F g set (scat (set.take i) (l.take i))) (fun i => i ≤ set.length) (fun i => set.length - i) 0 4 900
          (fun _ : Unit => [(1, .ptr 21 0 0), (3, .ptr 20 0 0), (5, .int .u16 (supOf set : Nat)), (11, .ptr 210 0 0)]) (fun _ => vW K R F g set (scat set l)) (fun _ => True) ⟨[(20, .blk 20 0), (21, .blk 21 0), (22, .blk 22 0), (23, .blk 23 0), (24, .blk 24 0), (150, .blk 150 0), (210, .blk 716 0)], rfl, (by repeat (first | exact RO.zero | exact RO.e | refine RO.set rfl ?_)), (by repeat' (first | exact RB.nil | (refine RnL.same ?_; first | rfl | (simp only [noRef, noRefs, noRefs_append, Bool.and_self, Bool.and_true, Bool.true_and, noRefs_flat10, noRefs_ints, noRefs_lsts, noRefs_pad, noRefs_tnC, noRefs_arcC, noRefs_rowF, noRefs_flowC]; done)) | exact RnM.keyM rfl | exact RnL.nil | refine RnL.cons ?_ ?_ | (refine Rn.same ?_; first | rfl | (simp only [noRef, noRefs, noRefs_append, Bool.and_self, Bool.and_true, Bool.true_and, noRefs_flat10, noRefs_ints, noRefs_lsts, noRefs_pad, noRefs_tnC, noRefs_arcC, noRefs_rowF, noRefs_flowC]; done)) | exact Rn.sl (Nat.le_of_ble_eq_true rfl) rfl | exact Rn.ptr (Nat.le_of_ble_eq_true rfl) rfl | exact Rn.map (Nat.le_of_ble_eq_true rfl) rfl | exact Rn.slnil (Nat.le_of_ble_eq_true rfl) rfl | exact Rn.slB (Nat.le_of_ble_eq_true rfl) | exact Rn.ptrB (Nat.le_of_ble_eq_true rfl) | exact Rn.mapB (Nat.le_of_ble_eq_true rfl) | refine RB.newnil rfl rfl ?_ | refine RB.cells rfl rfl rfl ?_ ?_ | refine RB.map rfl rfl rfl ?_ ?_ | refine RB.cellsB rfl rfl ?_ ?_ | refine RB.mapB rfl rfl ?_ ?_)), (by repeat (first | exact RT.nil | (refine RT.cons ?_ ?_; · (first | exact Rn.any | exact Rn.sl (Nat.le_of_ble_eq_true rfl) rfl | exact Rn.ptr (Nat.le_of_ble_eq_true rfl) rfl | exact Rn.map (Nat.le_of_ble_eq_true rfl) rfl | exact Rn.slnil (Nat.le_of_ble_eq_true rfl) rfl | exact Rn.slB (Nat.le_of_ble_eq_true rfl) | exact Rn.ptrB (Nat.le_of_ble_eq_true rfl) | exact Rn.mapB (Nat.le_of_ble_eq_true rfl) | (refine Rn.slot ?_ ?_; (first | rfl | (rw [Int.natCast_add]; rfl)); (first | rfl | (simp only [noRef, noRefs, noRefs_append, Bool.and_self, Bool.and_true, Bool.true_and, noRefs_flat10, noRefs_ints, noRefs_lsts, noRefs_pad, noRefs_tnC, noRefs_arcC, noRefs_rowF, noRefs_flowC]; done))) | (refine Rn.fn ?_ ?_ <;> (repeat' (first | exact RnL.nil | refine RnL.cons ?_ ?_ | exact Rn.same rfl | exact Rn.ptrB (Nat.le_of_ble_eq_true rfl) | exact Rn.ptr (Nat.le_of_ble_eq_true rfl) rfl | exact Rn.slB (Nat.le_of_ble_eq_true rfl) | exact Rn.sl (Nat.le_of_ble_eq_true rfl) rfl)))))))⟩ (Nat.zero_le _) ?_ ?_
        · intro i hi
          by_cases hlt : i < set.length
          · obtain ⟨c, hcc⟩ := get_ex hlt
            obtain ⟨x, hx⟩ := get_ex (show i < l.length by omega)
            have hcl := hc c (List.mem_of_getElem? hcc)
            have hgi : (ints (colI set))[i]? = some (.int .i64 c) := by simp [ints, colI_get hcc]
            have hi2 : i < l.length := by omega
            have hc10 : (c : Int) < 10 := by omega
            have hst := scat_take hcc hx
            generalize scat (set.take i) (l.take i) = f at hst
            have hset : ∀ a v, (a :: rowF 10 f).set (1 + c) (.int .i64 v) = a :: rowF 10 (fun j => if j = c then v else f j) := fun a v => by
              rw [Nat.add_comm 1 c, List.set_cons_succ, rowF_set]
            have hle : 1 + c + 1 ≤ 10 + 1 := by omega
            simp (config := { maxSteps := 1000000 }) (disch := first | omega | (simp only [List.length_map, List.length_append, List.length_cons, List.length_nil, ints_len] <;> omega)) only [hlt, hgi, vW, head_ints hx, hc10, hi2, hset, rowF_len, hle, wordsN, Int.reduceGT, wordsR, ne_eq, words, Nat.reduceAdd, Nat.reduceEqDiff, Nat.reduceBEq, ↓reduceIte, reduceCtorEq, SX.exit.injEq, if_true, if_false, Int.reduceAdd, Int.reduceSub, Int.reduceMul, Int.reduceLT, Int.reduceLE, Int.reduceEq, Int.reduceNe, Int.reduceNeg, Int.reduceToNat, Nat.reduceMul, Nat.reduceLT, Nat.reduceSub, Nat.reduceLeDiff]
            refine ⟨i + 1, by omega, by omega, ?_⟩
            rw [hst]
            exact ⟨[(20, .blk 20 0), (21, .blk 21 0), (22, .blk 22 0), (23, .blk 23 0), (24, .blk 24 0), (150, .blk 150 0), (210, .blk 210 0)], rfl, (by repeat (first | exact RO.zero | exact RO.e | refine RO.set rfl ?_)), (by repeat' (first | exact RB.nil | (refine RnL.same ?_; first | rfl | (simp only [noRef, noRefs, noRefs_append, Bool.and_self, Bool.and_true, Bool.true_and, noRefs_flat10, noRefs_ints, noRefs_lsts, noRefs_pad, noRefs_tnC, noRefs_arcC, noRefs_rowF, noRefs_flowC]; done)) | exact RnM.keyM rfl | exact RnL.nil | refine RnL.cons ?_ ?_ | (refine Rn.same ?_; first | rfl | (simp only [noRef, noRefs, noRefs_append, Bool.and_self, Bool.and_true, Bool.true_and, noRefs_flat10, noRefs_ints, noRefs_lsts, noRefs_pad, noRefs_tnC, noRefs_arcC, noRefs_rowF, noRefs_flowC]; done)) | exact Rn.sl (Nat.le_of_ble_eq_true rfl) rfl | exact Rn.ptr (Nat.le_of_ble_eq_true rfl) rfl | exact Rn.map (Nat.le_of_ble_eq_true rfl) rfl | exact Rn.slnil (Nat.le_of_ble_eq_true rfl) rfl | exact Rn.slB (Nat.le_of_ble_eq_true rfl) | exact Rn.ptrB (Nat.le_of_ble_eq_true rfl) | exact Rn.mapB (Nat.le_of_ble_eq_true rfl) | refine RB.newnil rfl rfl ?_ | refine RB.cells rfl rfl rfl ?_ ?_ | refine RB.map rfl rfl rfl ?_ ?_ | refine RB.cellsB rfl rfl ?_ ?_ | refine RB.mapB rfl rfl ?_ ?_)), (by repeat (first | exact RT.nil | (refine RT.cons ?_ ?_; · (first | exact Rn.any | exact Rn.sl (Nat.le_of_ble_eq_true rfl) rfl | exact Rn.ptr (Nat.le_of_ble_eq_true rfl) rfl | exact Rn.map (Nat.le_of_ble_eq_true rfl) rfl | exact Rn.slnil (Nat.le_of_ble_eq_true rfl) rfl | exact Rn.slB (Nat.le_of_ble_eq_true rfl) | exact Rn.ptrB (Nat.le_of_ble_eq_true rfl) | exact Rn.mapB (Nat.le_of_ble_eq_true rfl) | (refine Rn.slot ?_ ?_; (first | rfl | (rw [Int.natCast_add]; rfl)); (first | rfl | (simp only [noRef, noRefs, noRefs_append, Bool.and_self, Bool.and_true, Bool.true_and, noRefs_flat10, noRefs_ints, noRefs_lsts, noRefs_pad, noRefs_tnC, noRefs_arcC, noRefs_rowF, noRefs_flowC]; done))) | (refine Rn.fn ?_ ?_ <;> (repeat' (first | exact RnL.nil | refine RnL.cons ?_ ?_ | exact Rn.same rfl | exact Rn.ptrB (Nat.le_of_ble_eq_true rfl) | exact Rn.ptr (Nat.le_of_ble_eq_true rfl) rfl | exact Rn.slB (Nat.le_of_ble_eq_true rfl) | exact Rn.sl (Nat.le_of_ble_eq_true rfl) rfl)))))))⟩
          · have e : i = set.length := by omega
            subst e
            rw [List.take_length, ← hll, List.take_length]
            simp (config := { maxSteps := 1000000 }) (disch := first | omega | (simp only [List.length_map, List.length_append, List.length_cons, List.length_nil, ints_len] <;> omega)) only [hlt, vW, hll, wordsN, Int.reduceGT, wordsR, ne_eq, words, Nat.reduceAdd, Nat.reduceEqDiff, Nat.reduceBEq, ↓reduceIte, reduceCtorEq, SX.exit.injEq, if_true, if_false, Int.reduceAdd, Int.reduceSub, Int.reduceMul, Int.reduceLT, Int.reduceLE, Int.reduceEq, Int.reduceNe, Int.reduceNeg, Int.reduceToNat, Nat.reduceMul, Nat.reduceLT, Nat.reduceSub, Nat.reduceLeDiff]
            exact ⟨(), ⟨[(20, .blk 20 0), (21, .blk 21 0), (22, .blk 22 0), (23, .blk 23 0), (24, .blk 24 0), (150, .blk 150 0), (210, .blk 210 0)], rfl, (by repeat (first | exact RO.zero | exact RO.e | refine RO.set rfl ?_)), (by repeat' (first | exact RB.nil | (refine RnL.same ?_; first | rfl | (simp only [noRef, noRefs, noRefs_append, Bool.and_self, Bool.and_true, Bool.true_and, noRefs_flat10, noRefs_ints, noRefs_lsts, noRefs_pad, noRefs_tnC, noRefs_arcC, noRefs_rowF, noRefs_flowC]; done)) | exact RnM.keyM rfl | exact RnL.nil | refine RnL.cons ?_ ?_ | (refine Rn.same ?_; first | rfl | (simp only [noRef, noRefs, noRefs_append, Bool.and_self, Bool.and_true, Bool.true_and, noRefs_flat10, noRefs_ints, noRefs_lsts, noRefs_pad, noRefs_tnC, noRefs_arcC, noRefs_rowF, noRefs_flowC]; done)) | exact Rn.sl (Nat.le_of_ble_eq_true rfl) rfl | exact Rn.ptr (Nat.le_of_ble_eq_true rfl) rfl | exact Rn.map (Nat.le_of_ble_eq_true rfl) rfl | exact Rn.slnil (Nat.le_of_ble_eq_true rfl) rfl | exact Rn.slB (Nat.le_of_ble_eq_true rfl) | exact Rn.ptrB (Nat.le_of_ble_eq_true rfl) | exact Rn.mapB (Nat.le_of_ble_eq_true rfl) | refine RB.newnil rfl rfl ?_ | refine RB.cells rfl rfl rfl ?_ ?_ | refine RB.map rfl rfl rfl ?_ ?_ | refine RB.cellsB rfl rfl ?_ ?_ | refine RB.mapB rfl rfl ?_ ?_)), (by repeat (first | exact RT.nil | (refine RT.cons ?_ ?_; · (first | exact Rn.any | exact Rn.sl (Nat.le_of_ble_eq_true rfl) rfl | exact Rn.ptr (Nat.le_of_ble_eq_true rfl) rfl | exact Rn.map (Nat.le_of_ble_eq_true rfl) rfl | exact Rn.slnil (Nat.le_of_ble_eq_true rfl) rfl | exact Rn.slB (Nat.le_of_ble_eq_true rfl) | exact Rn.ptrB (Nat.le_of_ble_eq_true rfl) | exact Rn.mapB (Nat.le_of_ble_eq_true rfl) | (refine Rn.slot ?_ ?_; (first | rfl | (rw [Int.natCast_add]; rfl)); (first | rfl | (simp only [noRef, noRefs, noRefs_append, Bool.and_self, Bool.and_true, Bool.true_and, noRefs_flat10, noRefs_ints, noRefs_lsts, noRefs_pad, noRefs_tnC, noRefs_arcC, noRefs_rowF, noRefs_flowC]; done))) | (refine Rn.fn ?_ ?_ <;> (repeat' (first | exact RnL.nil | refine RnL.cons ?_ ?_ | exact Rn.same rfl | exact Rn.ptrB (Nat.le_of_ble_eq_true rfl) | exact Rn.ptr (Nat.le_of_ble_eq_true rfl) rfl | exact Rn.slB (Nat.le_of_ble_eq_true rfl) | exact Rn.sl (Nat.le_of_ble_eq_true rfl) rfl)))))))⟩⟩
        rintro _ -
        simp (config := { maxSteps := 1000000 }) (disch := first | omega | (simp only [List.length_map, List.length_append, List.length_cons, List.length_nil, ints_len] <;> omega)) only [vW, wordsN, Int.reduceGT, wordsR, ne_eq, words, Nat.reduceAdd, Nat.reduceEqDiff, Nat.reduceBEq, ↓reduceIte, reduceCtorEq, SX.exit.injEq, if_true, if_false, Int.reduceAdd, Int.reduceSub, Int.reduceMul, Int.reduceLT, Int.reduceLE, Int.reduceEq, Int.reduceNe, Int.reduceNeg, Int.reduceToNat, Nat.reduceMul, Nat.reduceLT, Nat.reduceSub, Nat.reduceLeDiff]
        have hx : supOf set ∉ F.map (·.1) := by
          intro hm
          obtain ⟨f, hf, he⟩ := List.mem_map.1 hm
          have := List.any_eq_false.1 hany f hf
          rw [he] at this
          simp at this
        refine aMapUpd_new (wU_ins (l := F.map (·.1)) hx (by decide) ?_)
        have ht : (AV.int .u16 (supOf set : Nat) :: rowF 10 (scat set l)).take 11 = AV.int .u16 (supOf set : Nat) :: rowF 10 (scat set l) := List.take_of_length_le (by rw [List.length_cons, rowF_len]; exact Nat.le_refl _)
        have hone : (AV.int .u16 (supOf set : Nat) :: rowF 10 (scat set l)).all AV.one = true := by rw [List.all_cons, one_rowF]; rfl
        have hput : putR [.int .u16 0, .int .i64 0, .int .i64 0, .int .i64 0, .int .i64 0, .int .i64 0, .int .i64 0, .int .i64 0, .int .i64 0, .int .i64 0, .int .i64 0] 0 (AV.int .u16 (supOf set : Nat) :: rowF 10 (scat set l)) = AV.int .u16 (supOf set : Nat) :: rowF 10 (scat set l) := rfl
        have hsrc : srcB (some (.cells g (flowC F))) g 0 F.length 11 = some (flowC F) := srcB_all (flowC_len F)
        have hfl : flowC F ++ (AV.int .u16 (supOf set : Nat) :: rowF 10 (scat set l)) = flowC (F ++ [(supOf set, scat set l)]) := by
          unfold flowC; rw [List.flatMap_append, List.flatMap_singleton]
        have hrl := rowF_len 10 (scat set l)
        simp (config := { maxSteps := 1000000 }) (disch := first | omega | (simp only [List.length_map, List.length_append, List.length_cons, List.length_nil, ints_len] <;> omega)) only [ht, hone, hrl, hput, hsrc, hfl, wordsN, Int.reduceGT, wordsR, ne_eq, words, Nat.reduceAdd, Nat.reduceEqDiff, Nat.reduceBEq, ↓reduceIte, reduceCtorEq, SX.exit.injEq, if_true, if_false, Int.reduceAdd, Int.reduceSub, Int.reduceMul, Int.reduceLT, Int.reduceLE, Int.reduceEq, Int.reduceNe, Int.reduceNeg, Int.reduceToNat, Nat.reduceMul, Nat.reduceLT, Nat.reduceSub, Nat.reduceLeDiff]
        refine ⟨.inl trivial, _, rfl, rfl, ?_⟩
        rw [← hL]
        simp only [vS, List.length_append, List.length_cons, List.length_nil, List.map_append, List.map_cons, List.map_nil, Nat.zero_add]
        exact ⟨[(20, .blk 20 0), (21, .blk 21 0), (22, .blk 22 0), (23, .blk 23 0), (24, .blk 24 0), (150, .blk 150 0)], rfl, (by repeat (first | exact RO.zero | exact RO.e | refine RO.set rfl ?_)), (by repeat' (first | exact RB.nil | (refine RnL.same ?_; first | rfl | (simp only [noRef, noRefs, noRefs_append, Bool.and_self, Bool.and_true, Bool.true_and, noRefs_flat10, noRefs_ints, noRefs_lsts, noRefs_pad, noRefs_tnC, noRefs_arcC, noRefs_rowF, noRefs_flowC]; done)) | exact RnM.keyM rfl | exact RnL.nil | refine RnL.cons ?_ ?_ | (refine Rn.same ?_; first | rfl | (simp only [noRef, noRefs, noRefs_append, Bool.and_self, Bool.and_true, Bool.true_and, noRefs_flat10, noRefs_ints, noRefs_lsts, noRefs_pad, noRefs_tnC, noRefs_arcC, noRefs_rowF, noRefs_flowC]; done)) | exact Rn.sl (Nat.le_of_ble_eq_true rfl) rfl | exact Rn.ptr (Nat.le_of_ble_eq_true rfl) rfl | exact Rn.map (Nat.le_of_ble_eq_true rfl) rfl | exact Rn.slnil (Nat.le_of_ble_eq_true rfl) rfl | exact Rn.slB (Nat.le_of_ble_eq_true rfl) | exact Rn.ptrB (Nat.le_of_ble_eq_true rfl) | exact Rn.mapB (Nat.le_of_ble_eq_true rfl) | refine RB.newnil rfl rfl ?_ | refine RB.cells rfl rfl rfl ?_ ?_ | refine RB.map rfl rfl rfl ?_ ?_ | refine RB.cellsB rfl rfl ?_ ?_ | refine RB.mapB rfl rfl ?_ ?_)), (by repeat (first | exact RT.nil | (refine RT.cons ?_ ?_; · (first | exact Rn.any | exact Rn.sl (Nat.le_of_ble_eq_true rfl) rfl | exact Rn.ptr (Nat.le_of_ble_eq_true rfl) rfl | exact Rn.map (Nat.le_of_ble_eq_true rfl) rfl | exact Rn.slnil (Nat.le_of_ble_eq_true rfl) rfl | exact Rn.slB (Nat.le_of_ble_eq_true rfl) | exact Rn.ptrB (Nat.le_of_ble_eq_true rfl) | exact Rn.mapB (Nat.le_of_ble_eq_true rfl) | (refine Rn.slot ?_ ?_; (first | rfl | (rw [Int.natCast_add]; rfl)); (first | rfl | (simp only [noRef, noRefs, noRefs_append, Bool.and_self, Bool.and_true, Bool.true_and, noRefs_flat10, noRefs_ints, noRefs_lsts, noRefs_pad, noRefs_tnC, noRefs_arcC, noRefs_rowF, noRefs_flowC]; done))) | (refine Rn.fn ?_ ?_ <;> (repeat' (first | exact RnL.nil | refine RnL.cons ?_ ?_ | exact Rn.same rfl | exact Rn.ptrB (Nat.le_of_ble_eq_true rfl) | exact Rn.ptr (Nat.le_of_ble_eq_true rfl) rfl | exact Rn.slB (Nat.le_of_ble_eq_true rfl) | exact Rn.sl (Nat.le_of_ble_eq_true rfl) rfl)))))))⟩
end Go.AM.SN
namespace Go.AM.SN
open Go.Proofs Go.AM.SK
set_option maxRecDepth 100000
set_option linter.unusedSimpArgs false
set_option linter.unusedVariables false
-- NA: noRef_net, noRef_sli, noRef_lsts, noRef_arcs, noRef_tns, noRef_tab
-- NR: noRefs_flat10, noRefs_ints, noRefs_lsts, noRefs_pad, noRefs_tnC, noRefs_arcC, noRefs_rowF, noRefs_flowC
/-- All sets of size numbers from a number on, out of c numbers, in order. -/
def setsF : Nat → Nat → Nat → List (List Nat)
  | 0, _, _ => [[]]
  | _ + 1, 0, _ => []
  | s + 1, c + 1, a => (setsF s c (a + 1)).map (a :: ·) ++ setsF (s + 1) c (a + 1)
def nxt (s : List Nat) (i : Nat) : List Nat := (List.range s.length).map fun p => if p < i then s.getD p 0 else s.getD i 0 + 1 + (p - i)
theorem sets_props : ∀ n, n < 6 → ∀ k, k < 6 → ∀ s ∈ setsF k n 0, s.length = k ∧ (∀ c ∈ s, c < n) ∧ s.Pairwise (· < ·) := by decide +kernel
theorem sets_first : ∀ n, n < 6 → ∀ k, k < 6 → k ≤ n → (setsF k n 0)[0]? = some (List.range k) := by decide +kernel
theorem sets_small : ∀ n, n < 6 → ∀ k, k < 6 → (setsF k n 0).length ≤ 10 := by decide +kernel
def chkNext : Bool := (List.range 6).all fun n => (List.range 6).all fun k => (List.range (setsF k n 0).length).all fun j => (List.range k).all fun i =>
  (((setsF k n 0).getD j []).getD i 0 == n - k + i) || !((List.range k).all fun p => !(decide (i < p)) || ((setsF k n 0).getD j []).getD p 0 == n - k + p) || decide ((setsF k n 0)[j + 1]? = some (nxt ((setsF k n 0).getD j []) i))
theorem chkNext_ok : chkNext = true := by decide +kernel
theorem sets_next (n : Nat) (hn : n < 6) (k : Nat) (hk : k < 6) (j : Nat) (hj : j < (setsF k n 0).length) (i : Nat) (hi : i < k) (h1 : ((setsF k n 0).getD j []).getD i 0 ≠ n - k + i) (h2 : ∀ p, p < k → i < p → ((setsF k n 0).getD j []).getD p 0 = n - k + p) :
    (setsF k n 0)[j + 1]? = some (nxt ((setsF k n 0).getD j []) i) := by
  have h := chkNext_ok
  unfold chkNext at h
  simp only [List.all_eq_true, List.mem_range] at h
  have h := h n hn k hk j hj i hi
  simp only [Bool.or_eq_true, Bool.not_eq_true', decide_eq_true_eq, beq_iff_eq] at h
  rcases h with (h | h) | h
  · exact absurd h h1
  · exfalso
    rw [Bool.eq_false_iff] at h
    apply h
    rw [List.all_eq_true]
    intro p hp
    simp only [Bool.or_eq_true, Bool.not_eq_true', decide_eq_false_iff_not, beq_iff_eq]
    by_cases hip : i < p
    · exact .inr (h2 p (by simpa using hp) hip)
    · exact .inl hip
  · exact h
theorem sets_last : ∀ n, n < 6 → ∀ k, k < 6 → ∀ j, j < (setsF k n 0).length → (∀ p, p < k → ((setsF k n 0).getD j []).getD p 0 = n - k + p) → j + 1 = (setsF k n 0).length := by decide +kernel
theorem visit_len (R : List (List Int)) (F : List Flow) (s : List Nat) : F.length ≤ (visitR R F s).length ∧ (visitR R F s).length ≤ F.length + 1 := by
  unfold visitR
  split
  · omega
  · split
    · omega
    · split
      · omega
      · simp
theorem visit_sup {R : List (List Int)} {F : List Flow} {s : List Nat} (hs : ∀ c ∈ s, c < 16) (hF : ∀ f ∈ F, f.1 < 65536) : ∀ f ∈ visitR R F s, f.1 < 65536 := by
  unfold visitR
  split
  · exact hF
  · split
    · exact hF
    · split
      · exact hF
      · intro f hf
        rcases List.mem_append.1 hf with h | h
        · exact hF f h
        · simp only [List.mem_singleton] at h
          subst h; exact supOf_lt hs
def foldV (R : List (List Int)) (F : List Flow) (S : List (List Nat)) : List Flow := S.foldl (visitR R) F
theorem foldV_len (R : List (List Int)) : ∀ (S : List (List Nat)) (F : List Flow), F.length ≤ (foldV R F S).length ∧ (foldV R F S).length ≤ F.length + S.length
  | [], F => by simp [foldV]
  | s :: S, F => by
    have h1 := visit_len R F s
    have h2 := foldV_len R S (visitR R F s)
    simp only [foldV, List.foldl_cons, List.length_cons] at h2 ⊢
    omega
theorem foldV_sup {R : List (List Int)} : ∀ (S : List (List Nat)) (F : List Flow), (∀ s ∈ S, ∀ c ∈ s, c < 16) → (∀ f ∈ F, f.1 < 65536) → ∀ f ∈ foldV R F S, f.1 < 65536
  | [], F, _, hF => hF
  | s :: S, F, hS, hF => foldV_sup S _ (fun t ht => hS t (by simp [ht])) (visit_sup (hS s (by simp)) hF)
theorem foldV_take (R : List (List Int)) (F : List Flow) (S : List (List Nat)) {j : Nat} {s : List Nat} (h : S[j]? = some s) : foldV R F (S.take (j + 1)) = visitR R (foldV R F (S.take j)) s := by
  unfold foldV
  rw [List.take_add_one, List.foldl_append, h]; rfl
def vC (K : Nat) (R : List (List Int)) (F : List Flow) (g : Nat) (cs : List AV) : HL :=
  [(20, .cells 0 [.sl 23 g 0 F.length 11]), (21, .cells 0 [.map 22 0]), (22, .map 0 (keyM .u16 (.bool true) (F.map (·.1)))), (23, .cells g (flowC F)), (24, .cells 0 [.int .i64 K, .fsl (R.flatMap pad) R.length 10]), (150, .cells 0 cs)]
def vJ (K : Nat) (R : List (List Int)) (F : List Flow) (g : Nat) (S : List (List Nat)) (j : Nat) : HL :=
  vC K R (foldV R F (S.take j)) (g + ((foldV R F (S.take j)).length - F.length)) (ints (colI (S.getD j [])))
theorem ints_rowF {s : List Nat} : ints (colI s) = rowF s.length (fun p => (s.getD p 0 : Nat)) := by
  unfold rowF colI
  congr 1
  refine List.ext_getElem? fun p => ?_
  by_cases hp : p < s.length
  · simp [List.getElem?_range hp, List.getElem?_eq_getElem hp, List.getD_eq_getElem?_getD]
  · simp [List.getElem?_eq_none (show s.length ≤ p by omega), List.getElem?_eq_none (show (List.range s.length).length ≤ p by simp; omega)]
set_option maxHeartbeats 8000000 in
theorem choose (K : Nat) (R : List (List Int)) (F : List Flow) (g k : Nat) (hK : K ≤ 5) (hR : R.length ≤ 100) (hRk : ∀ r ∈ R, r.length = K) (hRb : ∀ r ∈ R, ∀ x ∈ r, -8 ≤ x ∧ x ≤ 8) (hk0 : 0 < k) (hkK : k ≤ K)
    (hF : F.length ≤ 900) (hFs : ∀ f ∈ F, f.1 < 65536) :
    HSpec Try.prog 59 [.int .i64 K, .int .i64 k, .fn 60 [] [.ptr 21 0 0, .ptr 24 0 0, .ptr 20 0 0]] (hp (vH K R F g)) (.tup [])
      (hp (vH K R (foldV R F (setsF k K 0)) (g + ((foldV R F (setsF k K 0)).length - F.length)))) := by
  refine HSpec.of_rec (m := 100) 300 SM.ok59 rfl rfl rfl ?_
  generalize hL : vH K R (foldV R F (setsF k K 0)) (g + ((foldV R F (setsF k K 0)).length - F.length)) = L1
  have hp1 := sets_props K (by omega) k (by omega)
  have hp2 := sets_first K (by omega) k (by omega) hkK
  have hp3 := sets_small K (by omega) k (by omega)
  have hp4 := sets_next K (by omega) k (by omega)
  have hp5 := sets_last K (by omega) k (by omega)
  generalize setsF k K 0 = S at *
  have hk8 : (8 : Int) * (k : Int) ≤ 1099511627776 := by omega
  have hk1 : (k : Int) ≤ 1099511627776 := by omega
  have hkK' : (k : Int) ≤ K := by omega
  simp (config := { maxSteps := 1000000 }) (disch := first | omega | (simp only [List.length_map, List.length_append, List.length_cons, List.length_nil, ints_len] <;> omega)) only [SM.s59, vH, hk8, hk1, rowF_zero, wordsN, Int.reduceGT, wordsR, ne_eq, words, Nat.reduceAdd, Nat.reduceEqDiff, Nat.reduceBEq, ↓reduceIte, reduceCtorEq, SX.exit.injEq, if_true, if_false, Int.reduceAdd, Int.reduceSub, Int.reduceMul, Int.reduceLT, Int.reduceLE, Int.reduceEq, Int.reduceNe, Int.reduceNeg, Int.reduceToNat, Nat.reduceMul, Nat.reduceLT, Nat.reduceSub, Nat.reduceLeDiff]
  refine wS_loopX 400 (fun i : Nat => [(0, .int .i64 K), (1, .int .i64 k), (2, .fn 60 [] [.ptr 21 0 0, .ptr 24 0 0, .ptr 20 0 0]), (6, .sl 150 0 0 k 1), (13, .int .i64 k), (14, .int .i64 i)])
    (fun i => vC K R F g (rowF k fun p => if p < i then p else 0)) (fun i => i ≤ k) (fun i => k - i) 0 0 500
    (fun _ : Unit => [(0, .int .i64 K), (1, .int .i64 k), (2, .fn 60 [] [.ptr 21 0 0, .ptr 24 0 0, .ptr 20 0 0]), (6, .sl 150 0 0 k 1)]) (fun _ => vC K R F g (ints (colI (List.range k)))) (fun _ => True) ?_ (Nat.zero_le _) ?_ ?_
  · refine ⟨[(20, .blk 20 0), (21, .blk 21 0), (22, .blk 22 0), (23, .blk 23 0), (24, .blk 24 0), (150, .blk 301 0)], rfl, (by repeat (first | exact RO.zero | exact RO.e | refine RO.set rfl ?_)), ?_, (by repeat (first | exact RT.nil | (refine RT.cons ?_ ?_; · (first | exact Rn.any | exact Rn.sl (Nat.le_of_ble_eq_true rfl) rfl | exact Rn.ptr (Nat.le_of_ble_eq_true rfl) rfl | exact Rn.map (Nat.le_of_ble_eq_true rfl) rfl | exact Rn.slnil (Nat.le_of_ble_eq_true rfl) rfl | exact Rn.slB (Nat.le_of_ble_eq_true rfl) | exact Rn.ptrB (Nat.le_of_ble_eq_true rfl) | exact Rn.mapB (Nat.le_of_ble_eq_true rfl) | (refine Rn.slot ?_ ?_; (first | rfl | (rw [Int.natCast_add]; rfl)); (first | rfl | (simp only [noRef, noRefs, noRefs_append, Bool.and_self, Bool.and_true, Bool.true_and, noRefs_flat10, noRefs_ints, noRefs_lsts, noRefs_pad, noRefs_tnC, noRefs_arcC, noRefs_rowF, noRefs_flowC]; done))) | (refine Rn.fn ?_ ?_ <;> (repeat' (first | exact RnL.nil | refine RnL.cons ?_ ?_ | exact Rn.same rfl | exact Rn.ptrB (Nat.le_of_ble_eq_true rfl) | exact Rn.ptr (Nat.le_of_ble_eq_true rfl) rfl | exact Rn.slB (Nat.le_of_ble_eq_true rfl) | exact Rn.sl (Nat.le_of_ble_eq_true rfl) rfl)))))))⟩
    refine RB.cellsB rfl rfl ?_ (RB.cellsB rfl rfl ?_ (RB.mapB rfl rfl ?_ (RB.cellsB rfl rfl ?_ (RB.cellsB rfl rfl ?_ (RB.cells rfl rfl rfl (RnL.eq (rowF_congr fun p _ => ?_) (noRefs_rowF _ _)) RB.nil)))))
    all_goals first | (simp only [Nat.not_lt_zero, if_false]; done) | repeat' (first | exact RB.nil | (refine RnL.same ?_; first | rfl | (simp only [noRef, noRefs, noRefs_append, Bool.and_self, Bool.and_true, Bool.true_and, noRefs_flat10, noRefs_ints, noRefs_lsts, noRefs_pad, noRefs_tnC, noRefs_arcC, noRefs_rowF, noRefs_flowC]; done)) | exact RnM.keyM rfl | exact RnL.nil | refine RnL.cons ?_ ?_ | (refine Rn.same ?_; first | rfl | (simp only [noRef, noRefs, noRefs_append, Bool.and_self, Bool.and_true, Bool.true_and, noRefs_flat10, noRefs_ints, noRefs_lsts, noRefs_pad, noRefs_tnC, noRefs_arcC, noRefs_rowF, noRefs_flowC]; done)) | exact Rn.sl (Nat.le_of_ble_eq_true rfl) rfl | exact Rn.ptr (Nat.le_of_ble_eq_true rfl) rfl | exact Rn.map (Nat.le_of_ble_eq_true rfl) rfl | exact Rn.slnil (Nat.le_of_ble_eq_true rfl) rfl | exact Rn.slB (Nat.le_of_ble_eq_true rfl) | exact Rn.ptrB (Nat.le_of_ble_eq_true rfl) | exact Rn.mapB (Nat.le_of_ble_eq_true rfl) | refine RB.newnil rfl rfl ?_ | refine RB.cells rfl rfl rfl ?_ ?_ | refine RB.map rfl rfl rfl ?_ ?_ | refine RB.cellsB rfl rfl ?_ ?_ | refine RB.mapB rfl rfl ?_ ?_)
  · intro i hi
    by_cases hlt : i < k
    · have hset : ∀ v, (rowF k fun p => if p < i then (p : Int) else 0).set i (.int .i64 v) = rowF k (fun p => if p = i then v else if p < i then (p : Int) else 0) := fun v => rowF_set _ v
      have hle : i + 1 ≤ k := by omega
      simp (config := { maxSteps := 1000000 }) (disch := first | omega | (simp only [List.length_map, List.length_append, List.length_cons, List.length_nil, ints_len] <;> omega)) only [hlt, vC, hset, rowF_len, hle, wordsN, Int.reduceGT, wordsR, ne_eq, words, Nat.reduceAdd, Nat.reduceEqDiff, Nat.reduceBEq, ↓reduceIte, reduceCtorEq, SX.exit.injEq, if_true, if_false, Int.reduceAdd, Int.reduceSub, Int.reduceMul, Int.reduceLT, Int.reduceLE, Int.reduceEq, Int.reduceNe, Int.reduceNeg, Int.reduceToNat, Nat.reduceMul, Nat.reduceLT, Nat.reduceSub, Nat.reduceLeDiff]
      refine ⟨i + 1, by omega, by omega, ?_⟩
      have hf : (fun p => if p = i then (i : Int) else if p < i then (p : Int) else 0) = fun p : Nat => if p < i + 1 then (p : Int) else 0 := by
        funext p
        by_cases e : p = i
        · subst e; simp
        · have : (p < i + 1) ↔ (p < i) := by omega
          simp only [e, if_false, this]
      rw [hf]
      exact ⟨[(20, .blk 20 0), (21, .blk 21 0), (22, .blk 22 0), (23, .blk 23 0), (24, .blk 24 0), (150, .blk 150 0)], rfl, (by repeat (first | exact RO.zero | exact RO.e | refine RO.set rfl ?_)), (by repeat' (first | exact RB.nil | (refine RnL.same ?_; first | rfl | (simp only [noRef, noRefs, noRefs_append, Bool.and_self, Bool.and_true, Bool.true_and, noRefs_flat10, noRefs_ints, noRefs_lsts, noRefs_pad, noRefs_tnC, noRefs_arcC, noRefs_rowF, noRefs_flowC]; done)) | exact RnM.keyM rfl | exact RnL.nil | refine RnL.cons ?_ ?_ | (refine Rn.same ?_; first | rfl | (simp only [noRef, noRefs, noRefs_append, Bool.and_self, Bool.and_true, Bool.true_and, noRefs_flat10, noRefs_ints, noRefs_lsts, noRefs_pad, noRefs_tnC, noRefs_arcC, noRefs_rowF, noRefs_flowC]; done)) | exact Rn.sl (Nat.le_of_ble_eq_true rfl) rfl | exact Rn.ptr (Nat.le_of_ble_eq_true rfl) rfl | exact Rn.map (Nat.le_of_ble_eq_true rfl) rfl | exact Rn.slnil (Nat.le_of_ble_eq_true rfl) rfl | exact Rn.slB (Nat.le_of_ble_eq_true rfl) | exact Rn.ptrB (Nat.le_of_ble_eq_true rfl) | exact Rn.mapB (Nat.le_of_ble_eq_true rfl) | refine RB.newnil rfl rfl ?_ | refine RB.cells rfl rfl rfl ?_ ?_ | refine RB.map rfl rfl rfl ?_ ?_ | refine RB.cellsB rfl rfl ?_ ?_ | refine RB.mapB rfl rfl ?_ ?_)), (by repeat (first | exact RT.nil | (refine RT.cons ?_ ?_; · (first | exact Rn.any | exact Rn.sl (Nat.le_of_ble_eq_true rfl) rfl | exact Rn.ptr (Nat.le_of_ble_eq_true rfl) rfl | exact Rn.map (Nat.le_of_ble_eq_true rfl) rfl | exact Rn.slnil (Nat.le_of_ble_eq_true rfl) rfl | exact Rn.slB (Nat.le_of_ble_eq_true rfl) | exact Rn.ptrB (Nat.le_of_ble_eq_true rfl) | exact Rn.mapB (Nat.le_of_ble_eq_true rfl) | (refine Rn.slot ?_ ?_; (first | rfl | (rw [Int.natCast_add]; rfl)); (first | rfl | (simp only [noRef, noRefs, noRefs_append, Bool.and_self, Bool.and_true, Bool.true_and, noRefs_flat10, noRefs_ints, noRefs_lsts, noRefs_pad, noRefs_tnC, noRefs_arcC, noRefs_rowF, noRefs_flowC]; done))) | (refine Rn.fn ?_ ?_ <;> (repeat' (first | exact RnL.nil | refine RnL.cons ?_ ?_ | exact Rn.same rfl | exact Rn.ptrB (Nat.le_of_ble_eq_true rfl) | exact Rn.ptr (Nat.le_of_ble_eq_true rfl) rfl | exact Rn.slB (Nat.le_of_ble_eq_true rfl) | exact Rn.sl (Nat.le_of_ble_eq_true rfl) rfl)))))))⟩
    · have e : i = k := by omega
      subst e
      simp (config := { maxSteps := 1000000 }) (disch := first | omega | (simp only [List.length_map, List.length_append, List.length_cons, List.length_nil, ints_len] <;> omega)) only [hlt, vC, wordsN, Int.reduceGT, wordsR, ne_eq, words, Nat.reduceAdd, Nat.reduceEqDiff, Nat.reduceBEq, ↓reduceIte, reduceCtorEq, SX.exit.injEq, if_true, if_false, Int.reduceAdd, Int.reduceSub, Int.reduceMul, Int.reduceLT, Int.reduceLE, Int.reduceEq, Int.reduceNe, Int.reduceNeg, Int.reduceToNat, Nat.reduceMul, Nat.reduceLT, Nat.reduceSub, Nat.reduceLeDiff]
      refine ⟨(), ?_⟩
      rw [ints_rowF, List.length_range, rowF_congr (g := fun p => if p < i then (p : Int) else 0) fun p hp => by simp [hp, List.getD_eq_getElem?_getD, List.getElem?_range hp]]
      exact ⟨[(20, .blk 20 0), (21, .blk 21 0), (22, .blk 22 0), (23, .blk 23 0), (24, .blk 24 0), (150, .blk 150 0)], rfl, (by repeat (first | exact RO.zero | exact RO.e | refine RO.set rfl ?_)), (by repeat' (first | exact RB.nil | (refine RnL.same ?_; first | rfl | (simp only [noRef, noRefs, noRefs_append, Bool.and_self, Bool.and_true, Bool.true_and, noRefs_flat10, noRefs_ints, noRefs_lsts, noRefs_pad, noRefs_tnC, noRefs_arcC, noRefs_rowF, noRefs_flowC]; done)) | exact RnM.keyM rfl | exact RnL.nil | refine RnL.cons ?_ ?_ | (refine Rn.same ?_; first | rfl | (simp only [noRef, noRefs, noRefs_append, Bool.and_self, Bool.and_true, Bool.true_and, noRefs_flat10, noRefs_ints, noRefs_lsts, noRefs_pad, noRefs_tnC, noRefs_arcC, noRefs_rowF, noRefs_flowC]; done)) | exact Rn.sl (Nat.le_of_ble_eq_true rfl) rfl | exact Rn.ptr (Nat.le_of_ble_eq_true rfl) rfl | exact Rn.map (Nat.le_of_ble_eq_true rfl) rfl | exact Rn.slnil (Nat.le_of_ble_eq_true rfl) rfl | exact Rn.slB (Nat.le_of_ble_eq_true rfl) | exact Rn.ptrB (Nat.le_of_ble_eq_true rfl) | exact Rn.mapB (Nat.le_of_ble_eq_true rfl) | refine RB.newnil rfl rfl ?_ | refine RB.cells rfl rfl rfl ?_ ?_ | refine RB.map rfl rfl rfl ?_ ?_ | refine RB.cellsB rfl rfl ?_ ?_ | refine RB.mapB rfl rfl ?_ ?_)), (by repeat (first | exact RT.nil | (refine RT.cons ?_ ?_; · (first | exact Rn.any | exact Rn.sl (Nat.le_of_ble_eq_true rfl) rfl | exact Rn.ptr (Nat.le_of_ble_eq_true rfl) rfl | exact Rn.map (Nat.le_of_ble_eq_true rfl) rfl | exact Rn.slnil (Nat.le_of_ble_eq_true rfl) rfl | exact Rn.slB (Nat.le_of_ble_eq_true rfl) | exact Rn.ptrB (Nat.le_of_ble_eq_true rfl) | exact Rn.mapB (Nat.le_of_ble_eq_true rfl) | (refine Rn.slot ?_ ?_; (first | rfl | (rw [Int.natCast_add]; rfl)); (first | rfl | (simp only [noRef, noRefs, noRefs_append, Bool.and_self, Bool.and_true, Bool.true_and, noRefs_flat10, noRefs_ints, noRefs_lsts, noRefs_pad, noRefs_tnC, noRefs_arcC, noRefs_rowF, noRefs_flowC]; done))) | (refine Rn.fn ?_ ?_ <;> (repeat' (first | exact RnL.nil | refine RnL.cons ?_ ?_ | exact Rn.same rfl | exact Rn.ptrB (Nat.le_of_ble_eq_true rfl) | exact Rn.ptr (Nat.le_of_ble_eq_true rfl) rfl | exact Rn.slB (Nat.le_of_ble_eq_true rfl) | exact Rn.sl (Nat.le_of_ble_eq_true rfl) rfl)))))))⟩
  rintro _ -
  have hKB : ∀ s : List Nat, s.length = k → KBd R s := fun s hs => KBd_of R s (by omega) fun r hr x hx => by have := hRb r hr x hx; omega
  have hS0 : 0 < S.length := (List.getElem?_eq_some_iff.1 hp2).1
  have hg0 : S.getD 0 [] = List.range k := by rw [List.getD_eq_getElem?_getD, hp2]; rfl
  simp (config := { maxSteps := 1000000 }) (disch := first | omega | (simp only [List.length_map, List.length_append, List.length_cons, List.length_nil, ints_len] <;> omega)) only [vC, wordsN, Int.reduceGT, wordsR, ne_eq, words, Nat.reduceAdd, Nat.reduceEqDiff, Nat.reduceBEq, ↓reduceIte, reduceCtorEq, SX.exit.injEq, if_true, if_false, Int.reduceAdd, Int.reduceSub, Int.reduceMul, Int.reduceLT, Int.reduceLE, Int.reduceEq, Int.reduceNe, Int.reduceNeg, Int.reduceToNat, Nat.reduceMul, Nat.reduceLT, Nat.reduceSub, Nat.reduceLeDiff]
  refine wS_loopR 600 (fun j : Nat => [(0, .int .i64 K), (1, .int .i64 k), (2, .fn 60 [] [.ptr 21 0 0, .ptr 24 0 0, .ptr 20 0 0]), (6, .sl 150 0 0 k 1)])
    (fun j => vJ K R F g S j) (fun j => j < S.length) (fun j => S.length - j) 0 ?_ hS0 ?_
  · unfold vJ
    rw [hg0, List.take_zero, show foldV R F [] = F from rfl, Nat.sub_self, Nat.add_zero]
    exact ⟨[(20, .blk 20 0), (21, .blk 21 0), (22, .blk 22 0), (23, .blk 23 0), (24, .blk 24 0), (150, .blk 150 0)], rfl, (by repeat (first | exact RO.zero | exact RO.e | refine RO.set rfl ?_)), (by repeat' (first | exact RB.nil | (refine RnL.same ?_; first | rfl | (simp only [noRef, noRefs, noRefs_append, Bool.and_self, Bool.and_true, Bool.true_and, noRefs_flat10, noRefs_ints, noRefs_lsts, noRefs_pad, noRefs_tnC, noRefs_arcC, noRefs_rowF, noRefs_flowC]; done)) | exact RnM.keyM rfl | exact RnL.nil | refine RnL.cons ?_ ?_ | (refine Rn.same ?_; first | rfl | (simp only [noRef, noRefs, noRefs_append, Bool.and_self, Bool.and_true, Bool.true_and, noRefs_flat10, noRefs_ints, noRefs_lsts, noRefs_pad, noRefs_tnC, noRefs_arcC, noRefs_rowF, noRefs_flowC]; done)) | exact Rn.sl (Nat.le_of_ble_eq_true rfl) rfl | exact Rn.ptr (Nat.le_of_ble_eq_true rfl) rfl | exact Rn.map (Nat.le_of_ble_eq_true rfl) rfl | exact Rn.slnil (Nat.le_of_ble_eq_true rfl) rfl | exact Rn.slB (Nat.le_of_ble_eq_true rfl) | exact Rn.ptrB (Nat.le_of_ble_eq_true rfl) | exact Rn.mapB (Nat.le_of_ble_eq_true rfl) | refine RB.newnil rfl rfl ?_ | refine RB.cells rfl rfl rfl ?_ ?_ | refine RB.map rfl rfl rfl ?_ ?_ | refine RB.cellsB rfl rfl ?_ ?_ | refine RB.mapB rfl rfl ?_ ?_)), (by repeat (first | exact RT.nil | (refine RT.cons ?_ ?_; · (first | exact Rn.any | exact Rn.sl (Nat.le_of_ble_eq_true rfl) rfl | exact Rn.ptr (Nat.le_of_ble_eq_true rfl) rfl | exact Rn.map (Nat.le_of_ble_eq_true rfl) rfl | exact Rn.slnil (Nat.le_of_ble_eq_true rfl) rfl | exact Rn.slB (Nat.le_of_ble_eq_true rfl) | exact Rn.ptrB (Nat.le_of_ble_eq_true rfl) | exact Rn.mapB (Nat.le_of_ble_eq_true rfl) | (refine Rn.slot ?_ ?_; (first | rfl | (rw [Int.natCast_add]; rfl)); (first | rfl | (simp only [noRef, noRefs, noRefs_append, Bool.and_self, Bool.and_true, Bool.true_and, noRefs_flat10, noRefs_ints, noRefs_lsts, noRefs_pad, noRefs_tnC, noRefs_arcC, noRefs_rowF, noRefs_flowC]; done))) | (refine Rn.fn ?_ ?_ <;> (repeat' (first | exact RnL.nil | refine RnL.cons ?_ ?_ | exact Rn.same rfl | exact Rn.ptrB (Nat.le_of_ble_eq_true rfl) | exact Rn.ptr (Nat.le_of_ble_eq_true rfl) rfl | exact Rn.slB (Nat.le_of_ble_eq_true rfl) | exact Rn.sl (Nat.le_of_ble_eq_true rfl) rfl)))))))⟩
  intro j hj
  have hJ : vJ K R F g S (j + 1) = vC K R (foldV R F (S.take (j + 1))) (g + ((foldV R F (S.take (j + 1))).length - F.length)) (ints (colI (S.getD (j + 1) []))) := rfl
  rw [show vJ K R F g S j = vC K R (foldV R F (S.take j)) (g + ((foldV R F (S.take j)).length - F.length)) (ints (colI (S.getD j []))) from rfl]
  have hsj : S[j]? = some (S.getD j []) := by rw [List.getD_eq_getElem?_getD, List.getElem?_eq_getElem hj]; rfl
  have hnx := hp4 j hj
  have hls := hp5 j hj
  obtain ⟨hl1, hl2⟩ := foldV_len R (S.take j) F
  have hft := foldV_take R F S hsj
  generalize S.getD j [] = s at *
  obtain ⟨hsl, hsc, hsp⟩ := hp1 s (List.mem_of_getElem? hsj)
  have hS16 : ∀ s ∈ S.take j, ∀ c ∈ s, c < 16 := fun t ht c hc => by have := (hp1 t (List.mem_of_mem_take ht)).2.1 c hc; omega
  have hsup := foldV_sup (R := R) (S.take j) F hS16 hFs
  have hlj : (S.take j).length ≤ 10 := by rw [List.length_take]; omega
  obtain ⟨v1, v2⟩ := visit_len R (foldV R F (S.take j)) s
  rw [← hft] at v1 v2
  generalize hFj : foldV R F (S.take j) = Fj at *
  have hvis := visit K R Fj (g + (Fj.length - F.length)) s (by omega) hR hRk hsc (by omega) (hKB s hsl) (by omega) hsup
  rw [hsl, ← hft] at hvis
  rw [show g + (Fj.length - F.length) + ((foldV R F (S.take (j + 1))).length - Fj.length) = g + ((foldV R F (S.take (j + 1))).length - F.length) by omega] at hvis
  simp (config := { maxSteps := 1000000 }) (disch := first | omega | (simp only [List.length_map, List.length_append, List.length_cons, List.length_nil, ints_len] <;> omega)) only [vC, hkK', wordsN, Int.reduceGT, wordsR, ne_eq, words, Nat.reduceAdd, Nat.reduceEqDiff, Nat.reduceBEq, ↓reduceIte, reduceCtorEq, SX.exit.injEq, if_true, if_false, Int.reduceAdd, Int.reduceSub, Int.reduceMul, Int.reduceLT, Int.reduceLE, Int.reduceEq, Int.reduceNe, Int.reduceNeg, Int.reduceToNat, Nat.reduceMul, Nat.reduceLT, Nat.reduceSub, Nat.reduceLeDiff]
  refine call_heap hvis ?_
  generalize hgG : g + ((foldV R F (S.take (j + 1))).length - F.length) = g' at *
  generalize hFG : foldV R F (S.take (j + 1)) = F' at *
  have hci : ints (colI s) = rowF k (fun p => (s.getD p 0 : Nat)) := by rw [ints_rowF, hsl]
  simp (config := { maxSteps := 1000000 }) (disch := first | omega | (simp only [List.length_map, List.length_append, List.length_cons, List.length_nil, ints_len] <;> omega)) only [vS, hci, wordsN, Int.reduceGT, wordsR, ne_eq, words, Nat.reduceAdd, Nat.reduceEqDiff, Nat.reduceBEq, ↓reduceIte, reduceCtorEq, SX.exit.injEq, if_true, if_false, Int.reduceAdd, Int.reduceSub, Int.reduceMul, Int.reduceLT, Int.reduceLE, Int.reduceEq, Int.reduceNe, Int.reduceNeg, Int.reduceToNat, Nat.reduceMul, Nat.reduceLT, Nat.reduceSub, Nat.reduceLeDiff]
  refine wS_loopX 700 (fun a : Nat => [(0, .int .i64 K), (1, .int .i64 k), (2, .fn 60 [] [.ptr 21 0 0, .ptr 24 0 0, .ptr 20 0 0]), (6, .sl 150 0 0 k 1), (8, .int .i64 ((a : Int) - 1))])
    (fun _ => vC K R F' g' (rowF k fun p => (s.getD p 0 : Nat))) (fun a => a ≤ k ∧ ∀ p, p < k → a ≤ p → s.getD p 0 = K - k + p) (fun a => a) k 4 800
    (fun i : Int => [(0, .int .i64 K), (1, .int .i64 k), (2, .fn 60 [] [.ptr 21 0 0, .ptr 24 0 0, .ptr 20 0 0]), (6, .sl 150 0 0 k 1), (8, .int .i64 i)])
    (fun _ => vC K R F' g' (rowF k fun p => (s.getD p 0 : Nat))) (fun i => (i = -1 ∧ ∀ p, p < k → s.getD p 0 = K - k + p) ∨ ∃ b : Nat, i = b ∧ b < k ∧ s.getD b 0 ≠ K - k + b ∧ ∀ p, p < k → b < p → s.getD p 0 = K - k + p)
    ⟨[(20, .blk 20 0), (21, .blk 21 0), (22, .blk 22 0), (23, .blk 23 0), (24, .blk 24 0), (150, .blk 150 0)], rfl, (by repeat (first | exact RO.zero | exact RO.e | refine RO.set rfl ?_)), (by repeat' (first | exact RB.nil | (refine RnL.same ?_; first | rfl | (simp only [noRef, noRefs, noRefs_append, Bool.and_self, Bool.and_true, Bool.true_and, noRefs_flat10, noRefs_ints, noRefs_lsts, noRefs_pad, noRefs_tnC, noRefs_arcC, noRefs_rowF, noRefs_flowC]; done)) | exact RnM.keyM rfl | exact RnL.nil | refine RnL.cons ?_ ?_ | (refine Rn.same ?_; first | rfl | (simp only [noRef, noRefs, noRefs_append, Bool.and_self, Bool.and_true, Bool.true_and, noRefs_flat10, noRefs_ints, noRefs_lsts, noRefs_pad, noRefs_tnC, noRefs_arcC, noRefs_rowF, noRefs_flowC]; done)) | exact Rn.sl (Nat.le_of_ble_eq_true rfl) rfl | exact Rn.ptr (Nat.le_of_ble_eq_true rfl) rfl | exact Rn.map (Nat.le_of_ble_eq_true rfl) rfl | exact Rn.slnil (Nat.le_of_ble_eq_true rfl) rfl | exact Rn.slB (Nat.le_of_ble_eq_true rfl) | exact Rn.ptrB (Nat.le_of_ble_eq_true rfl) | exact Rn.mapB (Nat.le_of_ble_eq_true rfl) | refine RB.newnil rfl rfl ?_ | refine RB.cells rfl rfl rfl ?_ ?_ | refine RB.map rfl rfl rfl ?_ ?_ | refine RB.cellsB rfl rfl ?_ ?_ | refine RB.mapB rfl rfl ?_ ?_)), (by repeat (first | exact RT.nil | (refine RT.cons ?_ ?_; · (first | exact Rn.any | exact Rn.sl (Nat.le_of_ble_eq_true rfl) rfl | exact Rn.ptr (Nat.le_of_ble_eq_true rfl) rfl | exact Rn.map (Nat.le_of_ble_eq_true rfl) rfl | exact Rn.slnil (Nat.le_of_ble_eq_true rfl) rfl | exact Rn.slB (Nat.le_of_ble_eq_true rfl) | exact Rn.ptrB (Nat.le_of_ble_eq_true rfl) | exact Rn.mapB (Nat.le_of_ble_eq_true rfl) | (refine Rn.slot ?_ ?_; (first | rfl | (rw [Int.natCast_add]; rfl)); (first | rfl | (simp only [noRef, noRefs, noRefs_append, Bool.and_self, Bool.and_true, Bool.true_and, noRefs_flat10, noRefs_ints, noRefs_lsts, noRefs_pad, noRefs_tnC, noRefs_arcC, noRefs_rowF, noRefs_flowC]; done))) | (refine Rn.fn ?_ ?_ <;> (repeat' (first | exact RnL.nil | refine RnL.cons ?_ ?_ | exact Rn.same rfl | exact Rn.ptrB (Nat.le_of_ble_eq_true rfl) | exact Rn.ptr (Nat.le_of_ble_eq_true rfl) rfl | exact Rn.slB (Nat.le_of_ble_eq_true rfl) | exact Rn.sl (Nat.le_of_ble_eq_true rfl) rfl)))))))⟩ ⟨Nat.le_refl _, fun p h1 h2 => absurd h1 (by omega)⟩ ?_ ?_
  · rintro a ⟨ha, hall⟩
    cases a with
    | zero =>
      simp (config := { maxSteps := 1000000 }) (disch := first | omega | (simp only [List.length_map, List.length_append, List.length_cons, List.length_nil, ints_len] <;> omega)) only [vC, wordsN, Int.reduceGT, wordsR, ne_eq, words, Nat.reduceAdd, Nat.reduceEqDiff, Nat.reduceBEq, ↓reduceIte, reduceCtorEq, SX.exit.injEq, if_true, if_false, Int.reduceAdd, Int.reduceSub, Int.reduceMul, Int.reduceLT, Int.reduceLE, Int.reduceEq, Int.reduceNe, Int.reduceNeg, Int.reduceToNat, Nat.reduceMul, Nat.reduceLT, Nat.reduceSub, Nat.reduceLeDiff]
      refine ⟨-1, .inl ⟨rfl, fun p hp => hall p hp (Nat.zero_le _)⟩, ?_⟩
      exact ⟨[(20, .blk 20 0), (21, .blk 21 0), (22, .blk 22 0), (23, .blk 23 0), (24, .blk 24 0), (150, .blk 150 0)], rfl, (by repeat (first | exact RO.zero | exact RO.e | refine RO.set rfl ?_)), (by repeat' (first | exact RB.nil | (refine RnL.same ?_; first | rfl | (simp only [noRef, noRefs, noRefs_append, Bool.and_self, Bool.and_true, Bool.true_and, noRefs_flat10, noRefs_ints, noRefs_lsts, noRefs_pad, noRefs_tnC, noRefs_arcC, noRefs_rowF, noRefs_flowC]; done)) | exact RnM.keyM rfl | exact RnL.nil | refine RnL.cons ?_ ?_ | (refine Rn.same ?_; first | rfl | (simp only [noRef, noRefs, noRefs_append, Bool.and_self, Bool.and_true, Bool.true_and, noRefs_flat10, noRefs_ints, noRefs_lsts, noRefs_pad, noRefs_tnC, noRefs_arcC, noRefs_rowF, noRefs_flowC]; done)) | exact Rn.sl (Nat.le_of_ble_eq_true rfl) rfl | exact Rn.ptr (Nat.le_of_ble_eq_true rfl) rfl | exact Rn.map (Nat.le_of_ble_eq_true rfl) rfl | exact Rn.slnil (Nat.le_of_ble_eq_true rfl) rfl | exact Rn.slB (Nat.le_of_ble_eq_true rfl) | exact Rn.ptrB (Nat.le_of_ble_eq_true rfl) | exact Rn.mapB (Nat.le_of_ble_eq_true rfl) | refine RB.newnil rfl rfl ?_ | refine RB.cells rfl rfl rfl ?_ ?_ | refine RB.map rfl rfl rfl ?_ ?_ | refine RB.cellsB rfl rfl ?_ ?_ | refine RB.mapB rfl rfl ?_ ?_)), (by repeat (first | exact RT.nil | (refine RT.cons ?_ ?_; · (first | exact Rn.any | exact Rn.sl (Nat.le_of_ble_eq_true rfl) rfl | exact Rn.ptr (Nat.le_of_ble_eq_true rfl) rfl | exact Rn.map (Nat.le_of_ble_eq_true rfl) rfl | exact Rn.slnil (Nat.le_of_ble_eq_true rfl) rfl | exact Rn.slB (Nat.le_of_ble_eq_true rfl) | exact Rn.ptrB (Nat.le_of_ble_eq_true rfl) | exact Rn.mapB (Nat.le_of_ble_eq_true rfl) | (refine Rn.slot ?_ ?_; (first | rfl | (rw [Int.natCast_add]; rfl)); (first | rfl | (simp only [noRef, noRefs, noRefs_append, Bool.and_self, Bool.and_true, Bool.true_and, noRefs_flat10, noRefs_ints, noRefs_lsts, noRefs_pad, noRefs_tnC, noRefs_arcC, noRefs_rowF, noRefs_flowC]; done))) | (refine Rn.fn ?_ ?_ <;> (repeat' (first | exact RnL.nil | refine RnL.cons ?_ ?_ | exact Rn.same rfl | exact Rn.ptrB (Nat.le_of_ble_eq_true rfl) | exact Rn.ptr (Nat.le_of_ble_eq_true rfl) rfl | exact Rn.slB (Nat.le_of_ble_eq_true rfl) | exact Rn.sl (Nat.le_of_ble_eq_true rfl) rfl)))))))⟩
    | succ b =>
      have hbk : b < k := by omega
      have hgb := rowF_get (n := k) (fun p => ((s.getD p 0 : Nat) : Int)) hbk
      by_cases hq : s.getD b 0 = K - k + b
      · have hq' : (((s.getD b 0 : Nat) : Int) = (K : Int) - k + b) = True := eq_true (by omega)
        simp (config := { maxSteps := 1000000 }) (disch := first | omega | (simp only [List.length_map, List.length_append, List.length_cons, List.length_nil, ints_len] <;> omega)) only [vC, Int.add_sub_cancel, hbk, hgb, hq', wordsN, Int.reduceGT, wordsR, ne_eq, words, Nat.reduceAdd, Nat.reduceEqDiff, Nat.reduceBEq, ↓reduceIte, reduceCtorEq, SX.exit.injEq, if_true, if_false, Int.reduceAdd, Int.reduceSub, Int.reduceMul, Int.reduceLT, Int.reduceLE, Int.reduceEq, Int.reduceNe, Int.reduceNeg, Int.reduceToNat, Nat.reduceMul, Nat.reduceLT, Nat.reduceSub, Nat.reduceLeDiff]
        refine ⟨b, by omega, ⟨by omega, fun p hp hbp => ?_⟩, ?_⟩
        · by_cases e : p = b
          · subst e; exact hq
          · exact hall p hp (by omega)
        · exact ⟨[(20, .blk 20 0), (21, .blk 21 0), (22, .blk 22 0), (23, .blk 23 0), (24, .blk 24 0), (150, .blk 150 0)], rfl, (by repeat (first | exact RO.zero | exact RO.e | refine RO.set rfl ?_)), (by repeat' (first | exact RB.nil | (refine RnL.same ?_; first | rfl | (simp only [noRef, noRefs, noRefs_append, Bool.and_self, Bool.and_true, Bool.true_and, noRefs_flat10, noRefs_ints, noRefs_lsts, noRefs_pad, noRefs_tnC, noRefs_arcC, noRefs_rowF, noRefs_flowC]; done)) | exact RnM.keyM rfl | exact RnL.nil | refine RnL.cons ?_ ?_ | (refine Rn.same ?_; first | rfl | (simp only [noRef, noRefs, noRefs_append, Bool.and_self, Bool.and_true, Bool.true_and, noRefs_flat10, noRefs_ints, noRefs_lsts, noRefs_pad, noRefs_tnC, noRefs_arcC, noRefs_rowF, noRefs_flowC]; done)) | exact Rn.sl (Nat.le_of_ble_eq_true rfl) rfl | exact Rn.ptr (Nat.le_of_ble_eq_true rfl) rfl | exact Rn.map (Nat.le_of_ble_eq_true rfl) rfl | exact Rn.slnil (Nat.le_of_ble_eq_true rfl) rfl | exact Rn.slB (Nat.le_of_ble_eq_true rfl) | exact Rn.ptrB (Nat.le_of_ble_eq_true rfl) | exact Rn.mapB (Nat.le_of_ble_eq_true rfl) | refine RB.newnil rfl rfl ?_ | refine RB.cells rfl rfl rfl ?_ ?_ | refine RB.map rfl rfl rfl ?_ ?_ | refine RB.cellsB rfl rfl ?_ ?_ | refine RB.mapB rfl rfl ?_ ?_)), (by repeat (first | exact RT.nil | (refine RT.cons ?_ ?_; · (first | exact Rn.any | exact Rn.sl (Nat.le_of_ble_eq_true rfl) rfl | exact Rn.ptr (Nat.le_of_ble_eq_true rfl) rfl | exact Rn.map (Nat.le_of_ble_eq_true rfl) rfl | exact Rn.slnil (Nat.le_of_ble_eq_true rfl) rfl | exact Rn.slB (Nat.le_of_ble_eq_true rfl) | exact Rn.ptrB (Nat.le_of_ble_eq_true rfl) | exact Rn.mapB (Nat.le_of_ble_eq_true rfl) | (refine Rn.slot ?_ ?_; (first | rfl | (rw [Int.natCast_add]; rfl)); (first | rfl | (simp only [noRef, noRefs, noRefs_append, Bool.and_self, Bool.and_true, Bool.true_and, noRefs_flat10, noRefs_ints, noRefs_lsts, noRefs_pad, noRefs_tnC, noRefs_arcC, noRefs_rowF, noRefs_flowC]; done))) | (refine Rn.fn ?_ ?_ <;> (repeat' (first | exact RnL.nil | refine RnL.cons ?_ ?_ | exact Rn.same rfl | exact Rn.ptrB (Nat.le_of_ble_eq_true rfl) | exact Rn.ptr (Nat.le_of_ble_eq_true rfl) rfl | exact Rn.slB (Nat.le_of_ble_eq_true rfl) | exact Rn.sl (Nat.le_of_ble_eq_true rfl) rfl)))))))⟩
      · have hq' : (((s.getD b 0 : Nat) : Int) = (K : Int) - k + b) = False := eq_false (by omega)
        simp (config := { maxSteps := 1000000 }) (disch := first | omega | (simp only [List.length_map, List.length_append, List.length_cons, List.length_nil, ints_len] <;> omega)) only [vC, Int.add_sub_cancel, hbk, hgb, hq', wordsN, Int.reduceGT, wordsR, ne_eq, words, Nat.reduceAdd, Nat.reduceEqDiff, Nat.reduceBEq, ↓reduceIte, reduceCtorEq, SX.exit.injEq, if_true, if_false, Int.reduceAdd, Int.reduceSub, Int.reduceMul, Int.reduceLT, Int.reduceLE, Int.reduceEq, Int.reduceNe, Int.reduceNeg, Int.reduceToNat, Nat.reduceMul, Nat.reduceLT, Nat.reduceSub, Nat.reduceLeDiff]
        refine ⟨b, .inr ⟨b, rfl, hbk, hq, fun p hp hbp => hall p hp (by omega)⟩, ?_⟩
        exact ⟨[(20, .blk 20 0), (21, .blk 21 0), (22, .blk 22 0), (23, .blk 23 0), (24, .blk 24 0), (150, .blk 150 0)], rfl, (by repeat (first | exact RO.zero | exact RO.e | refine RO.set rfl ?_)), (by repeat' (first | exact RB.nil | (refine RnL.same ?_; first | rfl | (simp only [noRef, noRefs, noRefs_append, Bool.and_self, Bool.and_true, Bool.true_and, noRefs_flat10, noRefs_ints, noRefs_lsts, noRefs_pad, noRefs_tnC, noRefs_arcC, noRefs_rowF, noRefs_flowC]; done)) | exact RnM.keyM rfl | exact RnL.nil | refine RnL.cons ?_ ?_ | (refine Rn.same ?_; first | rfl | (simp only [noRef, noRefs, noRefs_append, Bool.and_self, Bool.and_true, Bool.true_and, noRefs_flat10, noRefs_ints, noRefs_lsts, noRefs_pad, noRefs_tnC, noRefs_arcC, noRefs_rowF, noRefs_flowC]; done)) | exact Rn.sl (Nat.le_of_ble_eq_true rfl) rfl | exact Rn.ptr (Nat.le_of_ble_eq_true rfl) rfl | exact Rn.map (Nat.le_of_ble_eq_true rfl) rfl | exact Rn.slnil (Nat.le_of_ble_eq_true rfl) rfl | exact Rn.slB (Nat.le_of_ble_eq_true rfl) | exact Rn.ptrB (Nat.le_of_ble_eq_true rfl) | exact Rn.mapB (Nat.le_of_ble_eq_true rfl) | refine RB.newnil rfl rfl ?_ | refine RB.cells rfl rfl rfl ?_ ?_ | refine RB.map rfl rfl rfl ?_ ?_ | refine RB.cellsB rfl rfl ?_ ?_ | refine RB.mapB rfl rfl ?_ ?_)), (by repeat (first | exact RT.nil | (refine RT.cons ?_ ?_; · (first | exact Rn.any | exact Rn.sl (Nat.le_of_ble_eq_true rfl) rfl | exact Rn.ptr (Nat.le_of_ble_eq_true rfl) rfl | exact Rn.map (Nat.le_of_ble_eq_true rfl) rfl | exact Rn.slnil (Nat.le_of_ble_eq_true rfl) rfl | exact Rn.slB (Nat.le_of_ble_eq_true rfl) | exact Rn.ptrB (Nat.le_of_ble_eq_true rfl) | exact Rn.mapB (Nat.le_of_ble_eq_true rfl) | (refine Rn.slot ?_ ?_; (first | rfl | (rw [Int.natCast_add]; rfl)); (first | rfl | (simp only [noRef, noRefs, noRefs_append, Bool.and_self, Bool.and_true, Bool.true_and, noRefs_flat10, noRefs_ints, noRefs_lsts, noRefs_pad, noRefs_tnC, noRefs_arcC, noRefs_rowF, noRefs_flowC]; done))) | (refine Rn.fn ?_ ?_ <;> (repeat' (first | exact RnL.nil | refine RnL.cons ?_ ?_ | exact Rn.same rfl | exact Rn.ptrB (Nat.le_of_ble_eq_true rfl) | exact Rn.ptr (Nat.le_of_ble_eq_true rfl) rfl | exact Rn.slB (Nat.le_of_ble_eq_true rfl) | exact Rn.sl (Nat.le_of_ble_eq_true rfl) rfl)))))))⟩
  rintro i (⟨rfl, hall⟩ | ⟨b, rfl, hbk, hq, hall⟩)
  · have hje := hls hall
    have hfS : F' = foldV R F S := by rw [← hFG, hje, List.take_length]
    simp (config := { maxSteps := 1000000 }) (disch := first | omega | (simp only [List.length_map, List.length_append, List.length_cons, List.length_nil, ints_len] <;> omega)) only [vC, wordsN, Int.reduceGT, wordsR, ne_eq, words, Nat.reduceAdd, Nat.reduceEqDiff, Nat.reduceBEq, ↓reduceIte, reduceCtorEq, SX.exit.injEq, if_true, if_false, Int.reduceAdd, Int.reduceSub, Int.reduceMul, Int.reduceLT, Int.reduceLE, Int.reduceEq, Int.reduceNe, Int.reduceNeg, Int.reduceToNat, Nat.reduceMul, Nat.reduceLT, Nat.reduceSub, Nat.reduceLeDiff]
    refine ⟨.inr trivial, _, rfl, rfl, ?_⟩
    rw [← hL, ← hfS, show g + (F'.length - F.length) = g' by rw [← hgG]]
    unfold vH
    exact ⟨[(20, .blk 20 0), (21, .blk 21 0), (22, .blk 22 0), (23, .blk 23 0), (24, .blk 24 0)], rfl, (by repeat (first | exact RO.zero | exact RO.e | refine RO.set rfl ?_)), (by repeat' (first | exact RB.nil | (refine RnL.same ?_; first | rfl | (simp only [noRef, noRefs, noRefs_append, Bool.and_self, Bool.and_true, Bool.true_and, noRefs_flat10, noRefs_ints, noRefs_lsts, noRefs_pad, noRefs_tnC, noRefs_arcC, noRefs_rowF, noRefs_flowC]; done)) | exact RnM.keyM rfl | exact RnL.nil | refine RnL.cons ?_ ?_ | (refine Rn.same ?_; first | rfl | (simp only [noRef, noRefs, noRefs_append, Bool.and_self, Bool.and_true, Bool.true_and, noRefs_flat10, noRefs_ints, noRefs_lsts, noRefs_pad, noRefs_tnC, noRefs_arcC, noRefs_rowF, noRefs_flowC]; done)) | exact Rn.sl (Nat.le_of_ble_eq_true rfl) rfl | exact Rn.ptr (Nat.le_of_ble_eq_true rfl) rfl | exact Rn.map (Nat.le_of_ble_eq_true rfl) rfl | exact Rn.slnil (Nat.le_of_ble_eq_true rfl) rfl | exact Rn.slB (Nat.le_of_ble_eq_true rfl) | exact Rn.ptrB (Nat.le_of_ble_eq_true rfl) | exact Rn.mapB (Nat.le_of_ble_eq_true rfl) | refine RB.newnil rfl rfl ?_ | refine RB.cells rfl rfl rfl ?_ ?_ | refine RB.map rfl rfl rfl ?_ ?_ | refine RB.cellsB rfl rfl ?_ ?_ | refine RB.mapB rfl rfl ?_ ?_)), (by repeat (first | exact RT.nil | (refine RT.cons ?_ ?_; · (first | exact Rn.any | exact Rn.sl (Nat.le_of_ble_eq_true rfl) rfl | exact Rn.ptr (Nat.le_of_ble_eq_true rfl) rfl | exact Rn.map (Nat.le_of_ble_eq_true rfl) rfl | exact Rn.slnil (Nat.le_of_ble_eq_true rfl) rfl | exact Rn.slB (Nat.le_of_ble_eq_true rfl) | exact Rn.ptrB (Nat.le_of_ble_eq_true rfl) | exact Rn.mapB (Nat.le_of_ble_eq_true rfl) | (refine Rn.slot ?_ ?_; (first | rfl | (rw [Int.natCast_add]; rfl)); (first | rfl | (simp only [noRef, noRefs, noRefs_append, Bool.and_self, Bool.and_true, Bool.true_and, noRefs_flat10, noRefs_ints, noRefs_lsts, noRefs_pad, noRefs_tnC, noRefs_arcC, noRefs_rowF, noRefs_flowC]; done))) | (refine Rn.fn ?_ ?_ <;> (repeat' (first | exact RnL.nil | refine RnL.cons ?_ ?_ | exact Rn.same rfl | exact Rn.ptrB (Nat.le_of_ble_eq_true rfl) | exact Rn.ptr (Nat.le_of_ble_eq_true rfl) rfl | exact Rn.slB (Nat.le_of_ble_eq_true rfl) | exact Rn.sl (Nat.le_of_ble_eq_true rfl) rfl)))))))⟩
  have hb0 : ¬ ((b : Nat) : Int) < 0 := by omega
  have hgb := rowF_get (n := k) (fun p => ((s.getD p 0 : Nat) : Int)) hbk
  have hset : ∀ v, (rowF k fun p => ((s.getD p 0 : Nat) : Int)).set b (.int .i64 v) = rowF k (fun p => if p = b then v else ((s.getD p 0 : Nat) : Int)) := fun v => rowF_set _ v
  have hle : b + 1 ≤ k := by omega
  have hsb : s.getD b 0 < 6 := by
    rw [List.getD_eq_getElem?_getD]
    cases hx : s[b]? with
    | none => simp
    | some x => have := hsc x (List.mem_of_getElem? hx); simp; omega
  simp (config := { maxSteps := 1000000 }) (disch := first | omega | (simp only [List.length_map, List.length_append, List.length_cons, List.length_nil, ints_len] <;> omega)) only [vC, hb0, hgb, hbk, hset, rowF_len, hle, wordsN, Int.reduceGT, wordsR, ne_eq, words, Nat.reduceAdd, Nat.reduceEqDiff, Nat.reduceBEq, ↓reduceIte, reduceCtorEq, SX.exit.injEq, if_true, if_false, Int.reduceAdd, Int.reduceSub, Int.reduceMul, Int.reduceLT, Int.reduceLE, Int.reduceEq, Int.reduceNe, Int.reduceNeg, Int.reduceToNat, Nat.reduceMul, Nat.reduceLT, Nat.reduceSub, Nat.reduceLeDiff]
  have hnb := hnx b hbk hq fun p hp hb => hall p hp hb
  generalize hs0 : s.getD b 0 = s0 at *
  refine wS_loopR 900 (fun d : Nat => [(0, .int .i64 K), (1, .int .i64 k), (2, .fn 60 [] [.ptr 21 0 0, .ptr 24 0 0, .ptr 20 0 0]), (6, .sl 150 0 0 k 1), (9, .int .i64 ((d : Int) + 1))])
    (fun d => vC K R F' g' (rowF k fun p => if p < b then ((s.getD p 0 : Nat) : Int) else if p < d + 1 then (s0 : Int) + 1 + ((p : Int) - b) else ((s.getD p 0 : Nat) : Int))) (fun d => b ≤ d ∧ d + 1 ≤ k) (fun d => k - d) b ?_ ⟨Nat.le_refl _, by omega⟩ ?_
  · refine ⟨[(20, .blk 20 0), (21, .blk 21 0), (22, .blk 22 0), (23, .blk 23 0), (24, .blk 24 0), (150, .blk 150 0)], rfl, (by repeat (first | exact RO.zero | exact RO.e | refine RO.set rfl ?_)), ?_, (by repeat (first | exact RT.nil | (refine RT.cons ?_ ?_; · (first | exact Rn.any | exact Rn.sl (Nat.le_of_ble_eq_true rfl) rfl | exact Rn.ptr (Nat.le_of_ble_eq_true rfl) rfl | exact Rn.map (Nat.le_of_ble_eq_true rfl) rfl | exact Rn.slnil (Nat.le_of_ble_eq_true rfl) rfl | exact Rn.slB (Nat.le_of_ble_eq_true rfl) | exact Rn.ptrB (Nat.le_of_ble_eq_true rfl) | exact Rn.mapB (Nat.le_of_ble_eq_true rfl) | (refine Rn.slot ?_ ?_; (first | rfl | (rw [Int.natCast_add]; rfl)); (first | rfl | (simp only [noRef, noRefs, noRefs_append, Bool.and_self, Bool.and_true, Bool.true_and, noRefs_flat10, noRefs_ints, noRefs_lsts, noRefs_pad, noRefs_tnC, noRefs_arcC, noRefs_rowF, noRefs_flowC]; done))) | (refine Rn.fn ?_ ?_ <;> (repeat' (first | exact RnL.nil | refine RnL.cons ?_ ?_ | exact Rn.same rfl | exact Rn.ptrB (Nat.le_of_ble_eq_true rfl) | exact Rn.ptr (Nat.le_of_ble_eq_true rfl) rfl | exact Rn.slB (Nat.le_of_ble_eq_true rfl) | exact Rn.sl (Nat.le_of_ble_eq_true rfl) rfl)))))))⟩
    refine RB.cellsB rfl rfl ?_ (RB.cellsB rfl rfl ?_ (RB.mapB rfl rfl ?_ (RB.cellsB rfl rfl ?_ (RB.cellsB rfl rfl ?_ (RB.cells rfl rfl rfl (RnL.eq (rowF_congr fun p _ => ?_) (noRefs_rowF _ _)) RB.nil)))))
    rotate_right 1
    · by_cases e : p = b
      · subst e; simp
      · have : (p < b + 1) ↔ (p < b) := by omega
        simp only [this, e, if_false]
        split <;> rfl
    all_goals repeat' (first | exact RB.nil | (refine RnL.same ?_; first | rfl | (simp only [noRef, noRefs, noRefs_append, Bool.and_self, Bool.and_true, Bool.true_and, noRefs_flat10, noRefs_ints, noRefs_lsts, noRefs_pad, noRefs_tnC, noRefs_arcC, noRefs_rowF, noRefs_flowC]; done)) | exact RnM.keyM rfl | exact RnL.nil | refine RnL.cons ?_ ?_ | (refine Rn.same ?_; first | rfl | (simp only [noRef, noRefs, noRefs_append, Bool.and_self, Bool.and_true, Bool.true_and, noRefs_flat10, noRefs_ints, noRefs_lsts, noRefs_pad, noRefs_tnC, noRefs_arcC, noRefs_rowF, noRefs_flowC]; done)) | exact Rn.sl (Nat.le_of_ble_eq_true rfl) rfl | exact Rn.ptr (Nat.le_of_ble_eq_true rfl) rfl | exact Rn.map (Nat.le_of_ble_eq_true rfl) rfl | exact Rn.slnil (Nat.le_of_ble_eq_true rfl) rfl | exact Rn.slB (Nat.le_of_ble_eq_true rfl) | exact Rn.ptrB (Nat.le_of_ble_eq_true rfl) | exact Rn.mapB (Nat.le_of_ble_eq_true rfl) | refine RB.newnil rfl rfl ?_ | refine RB.cells rfl rfl rfl ?_ ?_ | refine RB.map rfl rfl rfl ?_ ?_ | refine RB.cellsB rfl rfl ?_ ?_ | refine RB.mapB rfl rfl ?_ ?_)
  rintro d ⟨hbd, hdk⟩
  by_cases hlt : d + 1 < k
  · have hlt' : (d : Int) + 1 < k := by omega
    have hdk2 : d < k := by omega
    have hle2 : d + 1 + 1 ≤ k := by omega
    have hd0 : ¬ d < b := by omega
    have hgd := rowF_get (n := k) (fun p => if p < b then ((s.getD p 0 : Nat) : Int) else if p < d + 1 then (s0 : Int) + 1 + ((p : Int) - b) else ((s.getD p 0 : Nat) : Int)) hdk2
    rw [if_neg hd0, if_pos (Nat.lt_succ_self d)] at hgd
    have hset2 : ∀ v, (rowF k fun p => if p < b then ((s.getD p 0 : Nat) : Int) else if p < d + 1 then (s0 : Int) + 1 + ((p : Int) - b) else ((s.getD p 0 : Nat) : Int)).set (d + 1) (.int .i64 v) =
      rowF k (fun p => if p = d + 1 then v else if p < b then ((s.getD p 0 : Nat) : Int) else if p < d + 1 then (s0 : Int) + 1 + ((p : Int) - b) else ((s.getD p 0 : Nat) : Int)) := fun v => rowF_set _ v
    have htn : ((d : Int) + 1).toNat = d + 1 := by omega
    simp (config := { maxSteps := 1000000 }) (disch := first | omega | (simp only [List.length_map, List.length_append, List.length_cons, List.length_nil, ints_len] <;> omega)) only [vC, hlt', Int.add_sub_cancel, hdk2, hgd, htn, hset2, rowF_len, hle2, wordsN, Int.reduceGT, wordsR, ne_eq, words, Nat.reduceAdd, Nat.reduceEqDiff, Nat.reduceBEq, ↓reduceIte, reduceCtorEq, SX.exit.injEq, if_true, if_false, Int.reduceAdd, Int.reduceSub, Int.reduceMul, Int.reduceLT, Int.reduceLE, Int.reduceEq, Int.reduceNe, Int.reduceNeg, Int.reduceToNat, Nat.reduceMul, Nat.reduceLT, Nat.reduceSub, Nat.reduceLeDiff]
    refine ⟨d + 1, by omega, ⟨by omega, by omega⟩, ?_⟩
    refine ⟨[(20, .blk 20 0), (21, .blk 21 0), (22, .blk 22 0), (23, .blk 23 0), (24, .blk 24 0), (150, .blk 150 0)], rfl, (by repeat (first | exact RO.zero | exact RO.e | refine RO.set rfl ?_)), ?_, (by repeat (first | exact RT.nil | (refine RT.cons ?_ ?_; · (first | exact Rn.any | exact Rn.sl (Nat.le_of_ble_eq_true rfl) rfl | exact Rn.ptr (Nat.le_of_ble_eq_true rfl) rfl | exact Rn.map (Nat.le_of_ble_eq_true rfl) rfl | exact Rn.slnil (Nat.le_of_ble_eq_true rfl) rfl | exact Rn.slB (Nat.le_of_ble_eq_true rfl) | exact Rn.ptrB (Nat.le_of_ble_eq_true rfl) | exact Rn.mapB (Nat.le_of_ble_eq_true rfl) | (refine Rn.slot ?_ ?_; (first | rfl | (rw [Int.natCast_add]; rfl)); (first | rfl | (simp only [noRef, noRefs, noRefs_append, Bool.and_self, Bool.and_true, Bool.true_and, noRefs_flat10, noRefs_ints, noRefs_lsts, noRefs_pad, noRefs_tnC, noRefs_arcC, noRefs_rowF, noRefs_flowC]; done))) | (refine Rn.fn ?_ ?_ <;> (repeat' (first | exact RnL.nil | refine RnL.cons ?_ ?_ | exact Rn.same rfl | exact Rn.ptrB (Nat.le_of_ble_eq_true rfl) | exact Rn.ptr (Nat.le_of_ble_eq_true rfl) rfl | exact Rn.slB (Nat.le_of_ble_eq_true rfl) | exact Rn.sl (Nat.le_of_ble_eq_true rfl) rfl)))))))⟩
    refine RB.cellsB rfl rfl ?_ (RB.cellsB rfl rfl ?_ (RB.mapB rfl rfl ?_ (RB.cellsB rfl rfl ?_ (RB.cellsB rfl rfl ?_ (RB.cells rfl rfl rfl (RnL.eq (rowF_congr fun p hp => ?_) (noRefs_rowF _ _)) RB.nil)))))
    rotate_right 1
    · by_cases e : p = d + 1
      · subst e
        rw [if_neg (by omega), if_pos (by omega), if_pos rfl]; omega
      · have : (p < d + 1 + 1) ↔ (p < d + 1) := by omega
        simp only [this, e, if_false]
    all_goals repeat' (first | exact RB.nil | (refine RnL.same ?_; first | rfl | (simp only [noRef, noRefs, noRefs_append, Bool.and_self, Bool.and_true, Bool.true_and, noRefs_flat10, noRefs_ints, noRefs_lsts, noRefs_pad, noRefs_tnC, noRefs_arcC, noRefs_rowF, noRefs_flowC]; done)) | exact RnM.keyM rfl | exact RnL.nil | refine RnL.cons ?_ ?_ | (refine Rn.same ?_; first | rfl | (simp only [noRef, noRefs, noRefs_append, Bool.and_self, Bool.and_true, Bool.true_and, noRefs_flat10, noRefs_ints, noRefs_lsts, noRefs_pad, noRefs_tnC, noRefs_arcC, noRefs_rowF, noRefs_flowC]; done)) | exact Rn.sl (Nat.le_of_ble_eq_true rfl) rfl | exact Rn.ptr (Nat.le_of_ble_eq_true rfl) rfl | exact Rn.map (Nat.le_of_ble_eq_true rfl) rfl | exact Rn.slnil (Nat.le_of_ble_eq_true rfl) rfl | exact Rn.slB (Nat.le_of_ble_eq_true rfl) | exact Rn.ptrB (Nat.le_of_ble_eq_true rfl) | exact Rn.mapB (Nat.le_of_ble_eq_true rfl) | refine RB.newnil rfl rfl ?_ | refine RB.cells rfl rfl rfl ?_ ?_ | refine RB.map rfl rfl rfl ?_ ?_ | refine RB.cellsB rfl rfl ?_ ?_ | refine RB.mapB rfl rfl ?_ ?_)
  · have e : d + 1 = k := by omega
    have hlt' : ¬ (d : Int) + 1 < k := by omega
    simp (config := { maxSteps := 1000000 }) (disch := first | omega | (simp only [List.length_map, List.length_append, List.length_cons, List.length_nil, ints_len] <;> omega)) only [vC, hlt', wordsN, Int.reduceGT, wordsR, ne_eq, words, Nat.reduceAdd, Nat.reduceEqDiff, Nat.reduceBEq, ↓reduceIte, reduceCtorEq, SX.exit.injEq, if_true, if_false, Int.reduceAdd, Int.reduceSub, Int.reduceMul, Int.reduceLT, Int.reduceLE, Int.reduceEq, Int.reduceNe, Int.reduceNeg, Int.reduceToNat, Nat.reduceMul, Nat.reduceLT, Nat.reduceSub, Nat.reduceLeDiff]
    have hj1 : j + 1 < S.length := (List.getElem?_eq_some_iff.1 hnb).1
    refine ⟨j + 1, by omega, hj1, ?_⟩
    rw [hJ, show S.getD (j + 1) [] = nxt s b by rw [List.getD_eq_getElem?_getD, hnb]; rfl, ints_rowF, show (nxt s b).length = k by simp [nxt, hsl]]
    unfold vC
    refine ⟨[(20, .blk 20 0), (21, .blk 21 0), (22, .blk 22 0), (23, .blk 23 0), (24, .blk 24 0), (150, .blk 150 0)], rfl, (by repeat (first | exact RO.zero | exact RO.e | refine RO.set rfl ?_)), ?_, (by repeat (first | exact RT.nil | (refine RT.cons ?_ ?_; · (first | exact Rn.any | exact Rn.sl (Nat.le_of_ble_eq_true rfl) rfl | exact Rn.ptr (Nat.le_of_ble_eq_true rfl) rfl | exact Rn.map (Nat.le_of_ble_eq_true rfl) rfl | exact Rn.slnil (Nat.le_of_ble_eq_true rfl) rfl | exact Rn.slB (Nat.le_of_ble_eq_true rfl) | exact Rn.ptrB (Nat.le_of_ble_eq_true rfl) | exact Rn.mapB (Nat.le_of_ble_eq_true rfl) | (refine Rn.slot ?_ ?_; (first | rfl | (rw [Int.natCast_add]; rfl)); (first | rfl | (simp only [noRef, noRefs, noRefs_append, Bool.and_self, Bool.and_true, Bool.true_and, noRefs_flat10, noRefs_ints, noRefs_lsts, noRefs_pad, noRefs_tnC, noRefs_arcC, noRefs_rowF, noRefs_flowC]; done))) | (refine Rn.fn ?_ ?_ <;> (repeat' (first | exact RnL.nil | refine RnL.cons ?_ ?_ | exact Rn.same rfl | exact Rn.ptrB (Nat.le_of_ble_eq_true rfl) | exact Rn.ptr (Nat.le_of_ble_eq_true rfl) rfl | exact Rn.slB (Nat.le_of_ble_eq_true rfl) | exact Rn.sl (Nat.le_of_ble_eq_true rfl) rfl)))))))⟩
    refine RB.cellsB rfl rfl ?_ (RB.cellsB rfl rfl ?_ (RB.mapB rfl rfl ?_ (RB.cellsB rfl rfl ?_ (RB.cellsB rfl rfl ?_ (RB.cells rfl rfl rfl (RnL.eq (rowF_congr fun p hp => ?_) (noRefs_rowF _ _)) RB.nil)))))
    rotate_right 1
    · have hpr : (List.range s.length)[p]? = some p := List.getElem?_range (by omega)
      have hv : (nxt s b).getD p 0 = if p < b then s.getD p 0 else s.getD b 0 + 1 + (p - b) := by
        unfold nxt
        rw [List.getD_eq_getElem?_getD, List.getElem?_map, hpr]; rfl
      rw [hv, hs0]
      by_cases h1 : p < b
      · rw [if_pos h1, if_pos h1]
      · rw [if_neg h1, if_neg h1, if_pos (by omega)]; omega
    all_goals repeat' (first | exact RB.nil | (refine RnL.same ?_; first | rfl | (simp only [noRef, noRefs, noRefs_append, Bool.and_self, Bool.and_true, Bool.true_and, noRefs_flat10, noRefs_ints, noRefs_lsts, noRefs_pad, noRefs_tnC, noRefs_arcC, noRefs_rowF, noRefs_flowC]; done)) | exact RnM.keyM rfl | exact RnL.nil | refine RnL.cons ?_ ?_ | (refine Rn.same ?_; first | rfl | (simp only [noRef, noRefs, noRefs_append, Bool.and_self, Bool.and_true, Bool.true_and, noRefs_flat10, noRefs_ints, noRefs_lsts, noRefs_pad, noRefs_tnC, noRefs_arcC, noRefs_rowF, noRefs_flowC]; done)) | exact Rn.sl (Nat.le_of_ble_eq_true rfl) rfl | exact Rn.ptr (Nat.le_of_ble_eq_true rfl) rfl | exact Rn.map (Nat.le_of_ble_eq_true rfl) rfl | exact Rn.slnil (Nat.le_of_ble_eq_true rfl) rfl | exact Rn.slB (Nat.le_of_ble_eq_true rfl) | exact Rn.ptrB (Nat.le_of_ble_eq_true rfl) | exact Rn.mapB (Nat.le_of_ble_eq_true rfl) | refine RB.newnil rfl rfl ?_ | refine RB.cells rfl rfl rfl ?_ ?_ | refine RB.map rfl rfl rfl ?_ ?_ | refine RB.cellsB rfl rfl ?_ ?_ | refine RB.mapB rfl rfl ?_ ?_)
end Go.AM.SN
namespace Go.AM.SN
open Go.Proofs Go.AM.SK
set_option maxRecDepth 100000
set_option linter.unusedSimpArgs false
set_option linter.unusedVariables false
-- NA: noRef_net, noRef_sli, noRef_lsts, noRef_arcs, noRef_tns, noRef_tab
-- NR: noRefs_flat10, noRefs_ints, noRefs_lsts, noRefs_pad, noRefs_tnC, noRefs_arcC, noRefs_rowF, noRefs_flowC
/-- What is found in sets of at most so many. -/
def minF (R : List (List Int)) (K : Nat) : Nat → List Flow
  | 0 => []
  | m + 1 => foldV R (minF R K m) (setsF (m + 1) K 0)
theorem minF_len (R : List (List Int)) {K : Nat} (hK : K < 6) : ∀ m, m < 6 → (minF R K m).length ≤ 10 * m
  | 0, _ => by simp [minF]
  | m + 1, hm => by
    have h1 := minF_len R hK m (by omega)
    have h2 := (foldV_len R (setsF (m + 1) K 0) (minF R K m)).2
    have h3 := sets_small K hK (m + 1) hm
    unfold minF; omega
theorem minF_sup (R : List (List Int)) {K : Nat} (hK : K < 6) : ∀ m, m < 6 → ∀ f ∈ minF R K m, f.1 < 65536
  | 0, _ => by simp [minF]
  | m + 1, hm => foldV_sup _ _ (fun s hs c hc => by have := (sets_props K hK (m + 1) hm s hs).2.1 c hc; omega) (minF_sup R hK m (by omega))
abbrev flowsV (F : List Flow) : AV := .fsl (flowC F) F.length 11
theorem noRef_flows (F : List Flow) : noRef (flowsV F) = true := by simp only [noRef]; exact noRefs_flowC F
set_option maxHeartbeats 8000000 in
theorem minimalP (K : Nat) (R : List (List Int)) (hK : K ≤ 5) (hR : R.length ≤ 100) (hRk : ∀ r ∈ R, r.length = K) (hRb : ∀ r ∈ R, ∀ x ∈ r, -8 ≤ x ∧ x ≤ 8) :
    PSpec Try.prog 41 [tabV K R] (flowsV (minF R K K)) := by
  refine PSpec.of_rn 64 SM.ok41 rfl (by (try simp only [noRefs, noRef_net, noRef_sli, noRef_lsts, noRef_arcs, noRef_tns, noRef_tab]) <;> rfl) (noRef_flows _) ?_
  simp (config := { maxSteps := 1000000 }) (disch := first | omega | (simp only [List.length_map, List.length_append, List.length_cons, List.length_nil, ints_len] <;> omega)) only [SM.s41, aMakeMap_new, wordsM, wordsN, Int.reduceGT, wordsR, ne_eq, words, Nat.reduceAdd, Nat.reduceEqDiff, Nat.reduceBEq, ↓reduceIte, reduceCtorEq, SX.exit.injEq, if_true, if_false, Int.reduceAdd, Int.reduceSub, Int.reduceMul, Int.reduceLT, Int.reduceLE, Int.reduceEq, Int.reduceNe, Int.reduceNeg, Int.reduceToNat, Nat.reduceMul, Nat.reduceLT, Nat.reduceSub, Nat.reduceLeDiff]
  refine wS_loopR 100 (fun a : Nat => [(1, .ptr 24 0 0), (3, .ptr 20 0 0), (4, .ptr 21 0 0), (5, .int .i64 ((a : Int) + 1))])
    (fun a => vH K R (minF R K a) 0) (fun a => a ≤ K) (fun a => K - a) 0 ?_ (Nat.zero_le _) ?_
  · exact ⟨[(20, .blk 66 0), (21, .blk 68 0), (22, .blk 67 0), (23, .nil), (24, .blk 64 0)], rfl, (by repeat (first | exact RO.zero | exact RO.e | refine RO.set rfl ?_)), (by repeat' (first | exact RB.nil | (refine RnL.same ?_; first | rfl | (simp only [noRef, noRefs, noRefs_append, Bool.and_self, Bool.and_true, Bool.true_and, noRefs_flat10, noRefs_ints, noRefs_lsts, noRefs_pad, noRefs_tnC, noRefs_arcC, noRefs_rowF, noRefs_flowC]; done)) | exact RnM.keyM rfl | exact RnL.nil | refine RnL.cons ?_ ?_ | (refine Rn.same ?_; first | rfl | (simp only [noRef, noRefs, noRefs_append, Bool.and_self, Bool.and_true, Bool.true_and, noRefs_flat10, noRefs_ints, noRefs_lsts, noRefs_pad, noRefs_tnC, noRefs_arcC, noRefs_rowF, noRefs_flowC]; done)) | exact Rn.sl (Nat.le_of_ble_eq_true rfl) rfl | exact Rn.ptr (Nat.le_of_ble_eq_true rfl) rfl | exact Rn.map (Nat.le_of_ble_eq_true rfl) rfl | exact Rn.slnil (Nat.le_of_ble_eq_true rfl) rfl | exact Rn.slB (Nat.le_of_ble_eq_true rfl) | exact Rn.ptrB (Nat.le_of_ble_eq_true rfl) | exact Rn.mapB (Nat.le_of_ble_eq_true rfl) | refine RB.newnil rfl rfl ?_ | refine RB.cells rfl rfl rfl ?_ ?_ | refine RB.map rfl rfl rfl ?_ ?_ | refine RB.cellsB rfl rfl ?_ ?_ | refine RB.mapB rfl rfl ?_ ?_)), (by repeat (first | exact RT.nil | (refine RT.cons ?_ ?_; · (first | exact Rn.any | exact Rn.sl (Nat.le_of_ble_eq_true rfl) rfl | exact Rn.ptr (Nat.le_of_ble_eq_true rfl) rfl | exact Rn.map (Nat.le_of_ble_eq_true rfl) rfl | exact Rn.slnil (Nat.le_of_ble_eq_true rfl) rfl | exact Rn.slB (Nat.le_of_ble_eq_true rfl) | exact Rn.ptrB (Nat.le_of_ble_eq_true rfl) | exact Rn.mapB (Nat.le_of_ble_eq_true rfl) | (refine Rn.slot ?_ ?_; (first | rfl | (rw [Int.natCast_add]; rfl)); (first | rfl | (simp only [noRef, noRefs, noRefs_append, Bool.and_self, Bool.and_true, Bool.true_and, noRefs_flat10, noRefs_ints, noRefs_lsts, noRefs_pad, noRefs_tnC, noRefs_arcC, noRefs_rowF, noRefs_flowC]; done))) | (refine Rn.fn ?_ ?_ <;> (repeat' (first | exact RnL.nil | refine RnL.cons ?_ ?_ | exact Rn.same rfl | exact Rn.ptrB (Nat.le_of_ble_eq_true rfl) | exact Rn.ptr (Nat.le_of_ble_eq_true rfl) rfl | exact Rn.slB (Nat.le_of_ble_eq_true rfl) | exact Rn.sl (Nat.le_of_ble_eq_true rfl) rfl)))))))⟩
  intro a ha
  have hl := minF_len R (K := K) (by omega) a (by omega)
  have hs := minF_sup R (K := K) (by omega) a (by omega)
  by_cases hlt : a + 1 ≤ K
  · have hlt' : (a : Int) + 1 ≤ K := by omega
    have hch := choose K R (minF R K a) 0 (a + 1) hK hR hRk hRb (by omega) hlt (by omega) hs
    generalize hg : 0 + ((foldV R (minF R K a) (setsF (a + 1) K 0)).length - (minF R K a).length) = gg at hch
    have hF : minF R K (a + 1) = foldV R (minF R K a) (setsF (a + 1) K 0) := rfl
    rw [← hF] at hch
    simp (config := { maxSteps := 1000000 }) (disch := first | omega | (simp only [List.length_map, List.length_append, List.length_cons, List.length_nil, ints_len] <;> omega)) only [vH, hlt', wordsN, Int.reduceGT, wordsR, ne_eq, words, Nat.reduceAdd, Nat.reduceEqDiff, Nat.reduceBEq, ↓reduceIte, reduceCtorEq, SX.exit.injEq, if_true, if_false, Int.reduceAdd, Int.reduceSub, Int.reduceMul, Int.reduceLT, Int.reduceLE, Int.reduceEq, Int.reduceNe, Int.reduceNeg, Int.reduceToNat, Nat.reduceMul, Nat.reduceLT, Nat.reduceSub, Nat.reduceLeDiff]
    refine ch hch ?_
    generalize hF' : minF R K (a + 1) = F' at *
    simp (config := { maxSteps := 1000000 }) (disch := first | omega | (simp only [List.length_map, List.length_append, List.length_cons, List.length_nil, ints_len] <;> omega)) only [vH, wordsN, Int.reduceGT, wordsR, ne_eq, words, Nat.reduceAdd, Nat.reduceEqDiff, Nat.reduceBEq, ↓reduceIte, reduceCtorEq, SX.exit.injEq, if_true, if_false, Int.reduceAdd, Int.reduceSub, Int.reduceMul, Int.reduceLT, Int.reduceLE, Int.reduceEq, Int.reduceNe, Int.reduceNeg, Int.reduceToNat, Nat.reduceMul, Nat.reduceLT, Nat.reduceSub, Nat.reduceLeDiff]
    refine ⟨a + 1, by omega, hlt, ?_⟩
    rw [hF']
    exact ⟨[(20, .blk 20 0), (21, .blk 21 0), (22, .blk 22 0), (23, .blk 23 gg), (24, .blk 24 0)], rfl, (by repeat (first | exact RO.zero | exact RO.e | refine RO.set rfl ?_)), (by repeat' (first | exact RB.nil | (refine RnL.same ?_; first | rfl | (simp only [noRef, noRefs, noRefs_append, Bool.and_self, Bool.and_true, Bool.true_and, noRefs_flat10, noRefs_ints, noRefs_lsts, noRefs_pad, noRefs_tnC, noRefs_arcC, noRefs_rowF, noRefs_flowC]; done)) | exact RnM.keyM rfl | exact RnL.nil | refine RnL.cons ?_ ?_ | (refine Rn.same ?_; first | rfl | (simp only [noRef, noRefs, noRefs_append, Bool.and_self, Bool.and_true, Bool.true_and, noRefs_flat10, noRefs_ints, noRefs_lsts, noRefs_pad, noRefs_tnC, noRefs_arcC, noRefs_rowF, noRefs_flowC]; done)) | exact Rn.sl (Nat.le_of_ble_eq_true rfl) rfl | exact Rn.ptr (Nat.le_of_ble_eq_true rfl) rfl | exact Rn.map (Nat.le_of_ble_eq_true rfl) rfl | exact Rn.slnil (Nat.le_of_ble_eq_true rfl) rfl | exact Rn.slB (Nat.le_of_ble_eq_true rfl) | exact Rn.ptrB (Nat.le_of_ble_eq_true rfl) | exact Rn.mapB (Nat.le_of_ble_eq_true rfl) | refine RB.newnil rfl rfl ?_ | refine RB.cells rfl rfl rfl ?_ ?_ | refine RB.map rfl rfl rfl ?_ ?_ | refine RB.cellsB rfl rfl ?_ ?_ | refine RB.mapB rfl rfl ?_ ?_)), (by repeat (first | exact RT.nil | (refine RT.cons ?_ ?_; · (first | exact Rn.any | exact Rn.sl (Nat.le_of_ble_eq_true rfl) rfl | exact Rn.ptr (Nat.le_of_ble_eq_true rfl) rfl | exact Rn.map (Nat.le_of_ble_eq_true rfl) rfl | exact Rn.slnil (Nat.le_of_ble_eq_true rfl) rfl | exact Rn.slB (Nat.le_of_ble_eq_true rfl) | exact Rn.ptrB (Nat.le_of_ble_eq_true rfl) | exact Rn.mapB (Nat.le_of_ble_eq_true rfl) | (refine Rn.slot ?_ ?_; (first | rfl | (rw [Int.natCast_add]; rfl)); (first | rfl | (simp only [noRef, noRefs, noRefs_append, Bool.and_self, Bool.and_true, Bool.true_and, noRefs_flat10, noRefs_ints, noRefs_lsts, noRefs_pad, noRefs_tnC, noRefs_arcC, noRefs_rowF, noRefs_flowC]; done))) | (refine Rn.fn ?_ ?_ <;> (repeat' (first | exact RnL.nil | refine RnL.cons ?_ ?_ | exact Rn.same rfl | exact Rn.ptrB (Nat.le_of_ble_eq_true rfl) | exact Rn.ptr (Nat.le_of_ble_eq_true rfl) rfl | exact Rn.slB (Nat.le_of_ble_eq_true rfl) | exact Rn.sl (Nat.le_of_ble_eq_true rfl) rfl)))))))⟩
  · have e : a = K := by omega
    have hlt' : ¬ (a : Int) + 1 ≤ K := by omega
    subst e
    simp (config := { maxSteps := 1000000 }) (disch := first | omega | (simp only [List.length_map, List.length_append, List.length_cons, List.length_nil, ints_len] <;> omega)) only [vH, hlt', wordsN, Int.reduceGT, wordsR, ne_eq, words, Nat.reduceAdd, Nat.reduceEqDiff, Nat.reduceBEq, ↓reduceIte, reduceCtorEq, SX.exit.injEq, if_true, if_false, Int.reduceAdd, Int.reduceSub, Int.reduceMul, Int.reduceLT, Int.reduceLE, Int.reduceEq, Int.reduceNe, Int.reduceNeg, Int.reduceToNat, Nat.reduceMul, Nat.reduceLT, Nat.reduceSub, Nat.reduceLeDiff]
    exact ⟨.inr trivial, _, rfl, Rn.fz0 rfl (flowC_len _) (RnL.same (noRefs_flowC _))⟩
end Go.AM.SN
namespace Go.AM.SN
open Go.Proofs Go.AM.SK
set_option maxRecDepth 100000
set_option linter.unusedSimpArgs false
set_option linter.unusedVariables false
-- NA: noRef_net, noRef_sli, noRef_lsts, noRef_arcs, noRef_tns, noRef_tab
-- NR: noRefs_flat10, noRefs_ints, noRefs_lsts, noRefs_pad, noRefs_tnC, noRefs_arcC, noRefs_rowF, noRefs_flowC
def listR (K : Nat) (F : List Flow) : List (List Int) := F.map fun f => (List.range K).map f.2
theorem flow_len (f : Flow) : (AV.int .u16 (f.1 : Nat) :: rowF 10 f.2).length = 11 := by rw [List.length_cons, rowF_len]
theorem flowC_at {F : List Flow} {a : Nat} {f : Flow} (h : F[a]? = some f) : (flowC F).drop (a * 11) = (AV.int .u16 (f.1 : Nat) :: rowF 10 f.2) ++ flowC (F.drop (a + 1)) :=
  drop_flat' (f := fun f : Flow => AV.int .u16 (f.1 : Nat) :: rowF 10 f.2) (k := 11) (fun y _ => flow_len y) h
theorem put11 {f : Flow} : putR [.int .u16 0, .int .i64 0, .int .i64 0, .int .i64 0, .int .i64 0, .int .i64 0, .int .i64 0, .int .i64 0, .int .i64 0, .int .i64 0, .int .i64 0] 0 (AV.int .u16 (f.1 : Nat) :: rowF 10 f.2) = AV.int .u16 (f.1 : Nat) :: rowF 10 f.2 := rfl
set_option maxHeartbeats 8000000 in
theorem listedP (K : Nat) (R : List (List Int)) (hK : K ≤ 5) (hR : R.length ≤ 100) (hRk : ∀ r ∈ R, r.length = K) (hRb : ∀ r ∈ R, ∀ x ∈ r, -8 ≤ x ∧ x ≤ 8) (hW : ∀ f ∈ minF R K K, ∀ i, i < K → f.2 i ≤ 65536) :
    PSpec Try.prog 40 [tabV K R] (.tup [lsts (listR K (minF R K K)), .int .i64 0]) := by
  refine PSpec.of_rn 64 SM.ok40 rfl (by (try simp only [noRefs, noRef_net, noRef_sli, noRef_lsts, noRef_arcs, noRef_tns, noRef_tab]) <;> rfl) (by simp only [noRef, noRefs, noRefs_lsts]; rfl) ?_
  have hm := minimalP K R hK hR hRk hRb
  have hl := minF_len R (K := K) (by omega) K (by omega)
  generalize minF R K K = F at *
  have hF1 : ¬ (128 : Int) < F.length := by omega
  simp (config := { maxSteps := 1000000 }) (disch := first | omega | (simp only [List.length_map, List.length_append, List.length_cons, List.length_nil, ints_len] <;> omega)) only [SM.s40, wordsN, Int.reduceGT, wordsR, ne_eq, words, Nat.reduceAdd, Nat.reduceEqDiff, Nat.reduceBEq, ↓reduceIte, reduceCtorEq, SX.exit.injEq, if_true, if_false, Int.reduceAdd, Int.reduceSub, Int.reduceMul, Int.reduceLT, Int.reduceLE, Int.reduceEq, Int.reduceNe, Int.reduceNeg, Int.reduceToNat, Nat.reduceMul, Nat.reduceLT, Nat.reduceSub, Nat.reduceLeDiff]
  refine cp hm ?_
  simp (config := { maxSteps := 1000000 }) (disch := first | omega | (simp only [List.length_map, List.length_append, List.length_cons, List.length_nil, ints_len] <;> omega)) only [hF1, wordsN, Int.reduceGT, wordsR, ne_eq, words, Nat.reduceAdd, Nat.reduceEqDiff, Nat.reduceBEq, ↓reduceIte, reduceCtorEq, SX.exit.injEq, if_true, if_false, Int.reduceAdd, Int.reduceSub, Int.reduceMul, Int.reduceLT, Int.reduceLE, Int.reduceEq, Int.reduceNe, Int.reduceNeg, Int.reduceToNat, Nat.reduceMul, Nat.reduceLT, Nat.reduceSub, Nat.reduceLeDiff]
  refine wS_loopR 100 (fun a : Nat => [(1, .ptr 51 0 0), (5, .sl 50 0 0 a 1), (15, flowsV F), (16, .int .i64 F.length), (17, .int .i64 a)])
    (fun a => [(50, .cells 0 ((listR K (F.take a)).map sli)), (51, .cells 0 [.int .i64 K, .fsl (R.flatMap pad) R.length 10])]) (fun a => a ≤ F.length) (fun a => F.length - a) 0 ?_ (Nat.zero_le _) ?_
  · simp only [List.take_zero, listR, List.map_nil]
    exact ⟨[(50, .nil), (51, .blk 64 0)], rfl, (by repeat (first | exact RO.zero | exact RO.e | refine RO.set rfl ?_)), (by repeat' (first | exact RB.nil | (refine RnL.same ?_; first | rfl | (simp only [noRef, noRefs, noRefs_append, Bool.and_self, Bool.and_true, Bool.true_and, noRefs_flat10, noRefs_ints, noRefs_lsts, noRefs_pad, noRefs_tnC, noRefs_arcC, noRefs_rowF, noRefs_flowC]; done)) | exact RnM.keyM rfl | exact RnL.nil | refine RnL.cons ?_ ?_ | (refine Rn.same ?_; first | rfl | (simp only [noRef, noRefs, noRefs_append, Bool.and_self, Bool.and_true, Bool.true_and, noRefs_flat10, noRefs_ints, noRefs_lsts, noRefs_pad, noRefs_tnC, noRefs_arcC, noRefs_rowF, noRefs_flowC]; done)) | exact Rn.sl (Nat.le_of_ble_eq_true rfl) rfl | exact Rn.ptr (Nat.le_of_ble_eq_true rfl) rfl | exact Rn.map (Nat.le_of_ble_eq_true rfl) rfl | exact Rn.slnil (Nat.le_of_ble_eq_true rfl) rfl | exact Rn.slB (Nat.le_of_ble_eq_true rfl) | exact Rn.ptrB (Nat.le_of_ble_eq_true rfl) | exact Rn.mapB (Nat.le_of_ble_eq_true rfl) | refine RB.newnil rfl rfl ?_ | refine RB.cells rfl rfl rfl ?_ ?_ | refine RB.map rfl rfl rfl ?_ ?_ | refine RB.cellsB rfl rfl ?_ ?_ | refine RB.mapB rfl rfl ?_ ?_)), (by repeat (first | exact RT.nil | (refine RT.cons ?_ ?_; · (first | exact Rn.any | exact Rn.sl (Nat.le_of_ble_eq_true rfl) rfl | exact Rn.ptr (Nat.le_of_ble_eq_true rfl) rfl | exact Rn.map (Nat.le_of_ble_eq_true rfl) rfl | exact Rn.slnil (Nat.le_of_ble_eq_true rfl) rfl | exact Rn.slB (Nat.le_of_ble_eq_true rfl) | exact Rn.ptrB (Nat.le_of_ble_eq_true rfl) | exact Rn.mapB (Nat.le_of_ble_eq_true rfl) | (refine Rn.slot ?_ ?_; (first | rfl | (rw [Int.natCast_add]; rfl)); (first | rfl | (simp only [noRef, noRefs, noRefs_append, Bool.and_self, Bool.and_true, Bool.true_and, noRefs_flat10, noRefs_ints, noRefs_lsts, noRefs_pad, noRefs_tnC, noRefs_arcC, noRefs_rowF, noRefs_flowC]; done))) | (refine Rn.fn ?_ ?_ <;> (repeat' (first | exact RnL.nil | refine RnL.cons ?_ ?_ | exact Rn.same rfl | exact Rn.ptrB (Nat.le_of_ble_eq_true rfl) | exact Rn.ptr (Nat.le_of_ble_eq_true rfl) rfl | exact Rn.slB (Nat.le_of_ble_eq_true rfl) | exact Rn.sl (Nat.le_of_ble_eq_true rfl) rfl)))))))⟩
  intro a ha
  by_cases hlt : a < F.length
  · obtain ⟨f, hf⟩ := get_ex hlt
    have hfm := List.mem_of_getElem? hf
    have hd := flowC_at hf
    have ht11 : ((AV.int .u16 (f.1 : Nat) :: rowF 10 f.2) ++ flowC (F.drop (a + 1))).take 11 = AV.int .u16 (f.1 : Nat) :: rowF 10 f.2 := by rw [← flow_len f, List.take_left']; rfl
    have hl11 : (11 ≤ ((AV.int .u16 (f.1 : Nat) :: rowF 10 f.2) ++ flowC (F.drop (a + 1))).length) = True := by simp only [List.length_append, flow_len]; exact eq_true (by omega)
    have hone : (AV.int .u16 (f.1 : Nat) :: rowF 10 f.2).all AV.one = true := by rw [List.all_cons, one_rowF]; rfl
    have hfl := flow_len f
    have hp := put11 (f := f)
    have hk8 : (8 : Int) * (K : Int) ≤ 1099511627776 := by omega
    have hk1 : (K : Int) ≤ 1099511627776 := by omega
    generalize hfc : (AV.int .u16 (f.1 : Nat) :: rowF 10 f.2) = fc at *
    have hfr : noRefs fc = true := by rw [← hfc]; simp only [noRefs, noRef, noRefs_rowF]; rfl
    have hget : ∀ i, i < K → fc[1 + i]? = some (.int .i64 (f.2 i)) := fun i hi => by rw [← hfc, Nat.add_comm 1 i, List.getElem?_cons_succ]; exact rowF_get _ (by omega)
    have hw := hW f hfm
    have hla : (listR K (F.take a)).length = a := by simp [listR]; omega
    have hls : (listR K (F.take (a + 1))).map sli = (listR K (F.take a)).map sli ++ [sli ((List.range K).map f.2)] := by
      unfold listR
      rw [List.take_add_one, hf, List.map_append, List.map_append]; rfl
    simp (config := { maxSteps := 1000000 }) (disch := first | omega | (simp only [List.length_map, List.length_append, List.length_cons, List.length_nil, ints_len] <;> omega)) only [hlt, hd, ht11, hl11, hfl, hone, hp, hk8, hk1, rowF_zero, wordsN, Int.reduceGT, wordsR, ne_eq, words, Nat.reduceAdd, Nat.reduceEqDiff, Nat.reduceBEq, ↓reduceIte, reduceCtorEq, SX.exit.injEq, if_true, if_false, Int.reduceAdd, Int.reduceSub, Int.reduceMul, Int.reduceLT, Int.reduceLE, Int.reduceEq, Int.reduceNe, Int.reduceNeg, Int.reduceToNat, Nat.reduceMul, Nat.reduceLT, Nat.reduceSub, Nat.reduceLeDiff]
    refine wS_loopR 200 (fun i : Nat => [(1, .ptr 51 0 0), (5, .sl 50 0 0 a 1), (15, flowsV F), (16, .int .i64 F.length), (17, .int .i64 a), (7, .ptr 52 0 0), (8, .sl 53 0 0 K 1), (25, .int .i64 K), (26, .int .i64 i)])
      (fun i => [(50, .cells 0 ((listR K (F.take a)).map sli)), (51, .cells 0 [.int .i64 K, .fsl (R.flatMap pad) R.length 10]), (52, .cells 0 fc), (53, .cells 0 (rowF K fun p => if p < i then f.2 p else 0))]) (fun i => i ≤ K) (fun i => K - i) 0 ?_ (Nat.zero_le _) ?_
    · refine ⟨[(50, .blk 50 0), (51, .blk 51 0), (52, .blk 103 0), (53, .blk 107 0)], rfl, (by repeat (first | exact RO.zero | exact RO.e | refine RO.set rfl ?_)), ?_, (by repeat (first | exact RT.nil | (refine RT.cons ?_ ?_; · (first | exact Rn.any | exact Rn.sl (Nat.le_of_ble_eq_true rfl) rfl | exact Rn.ptr (Nat.le_of_ble_eq_true rfl) rfl | exact Rn.map (Nat.le_of_ble_eq_true rfl) rfl | exact Rn.slnil (Nat.le_of_ble_eq_true rfl) rfl | exact Rn.slB (Nat.le_of_ble_eq_true rfl) | exact Rn.ptrB (Nat.le_of_ble_eq_true rfl) | exact Rn.mapB (Nat.le_of_ble_eq_true rfl) | (refine Rn.slot ?_ ?_; (first | rfl | (rw [Int.natCast_add]; rfl)); (first | rfl | (simp only [noRef, noRefs, noRefs_append, Bool.and_self, Bool.and_true, Bool.true_and, noRefs_flat10, noRefs_ints, noRefs_lsts, noRefs_pad, noRefs_tnC, noRefs_arcC, noRefs_rowF, noRefs_flowC]; done))) | (refine Rn.fn ?_ ?_ <;> (repeat' (first | exact RnL.nil | refine RnL.cons ?_ ?_ | exact Rn.same rfl | exact Rn.ptrB (Nat.le_of_ble_eq_true rfl) | exact Rn.ptr (Nat.le_of_ble_eq_true rfl) rfl | exact Rn.slB (Nat.le_of_ble_eq_true rfl) | exact Rn.sl (Nat.le_of_ble_eq_true rfl) rfl)))))))⟩
      refine RB.cells rfl rfl rfl (RnL.same (noRefs_lsts _)) (RB.cells rfl rfl rfl ?_ (RB.cells rfl rfl rfl (RnL.same hfr) (RB.cells rfl rfl rfl (RnL.eq (rowF_congr fun p _ => if_neg (Nat.not_lt_zero _)) (noRefs_rowF _ _)) RB.nil)))
      repeat' (first | exact RB.nil | (refine RnL.same ?_; first | rfl | (simp only [noRef, noRefs, noRefs_append, Bool.and_self, Bool.and_true, Bool.true_and, noRefs_flat10, noRefs_ints, noRefs_lsts, noRefs_pad, noRefs_tnC, noRefs_arcC, noRefs_rowF, noRefs_flowC]; done)) | exact RnM.keyM rfl | exact RnL.nil | refine RnL.cons ?_ ?_ | (refine Rn.same ?_; first | rfl | (simp only [noRef, noRefs, noRefs_append, Bool.and_self, Bool.and_true, Bool.true_and, noRefs_flat10, noRefs_ints, noRefs_lsts, noRefs_pad, noRefs_tnC, noRefs_arcC, noRefs_rowF, noRefs_flowC]; done)) | exact Rn.sl (Nat.le_of_ble_eq_true rfl) rfl | exact Rn.ptr (Nat.le_of_ble_eq_true rfl) rfl | exact Rn.map (Nat.le_of_ble_eq_true rfl) rfl | exact Rn.slnil (Nat.le_of_ble_eq_true rfl) rfl | exact Rn.slB (Nat.le_of_ble_eq_true rfl) | exact Rn.ptrB (Nat.le_of_ble_eq_true rfl) | exact Rn.mapB (Nat.le_of_ble_eq_true rfl) | refine RB.newnil rfl rfl ?_ | refine RB.cells rfl rfl rfl ?_ ?_ | refine RB.map rfl rfl rfl ?_ ?_ | refine RB.cellsB rfl rfl ?_ ?_ | refine RB.mapB rfl rfl ?_ ?_)
    intro i hi
    by_cases hil : i < K
    · have hi10 : (i : Int) < 10 := by omega
      have hgi := hget i hil
      have hwi : ¬ (65536 : Int) < f.2 i := by have := hw i hil; omega
      have hset : ∀ v, (rowF K fun p => if p < i then f.2 p else 0).set i (.int .i64 v) = rowF K (fun p => if p = i then v else if p < i then f.2 p else 0) := fun v => rowF_set _ v
      have hle : i + 1 ≤ K := by omega
      simp (config := { maxSteps := 1000000 }) (disch := first | omega | (simp only [List.length_map, List.length_append, List.length_cons, List.length_nil, ints_len] <;> omega)) only [hil, hi10, hgi, hwi, hset, hle, rowF_len, wordsN, Int.reduceGT, wordsR, ne_eq, words, Nat.reduceAdd, Nat.reduceEqDiff, Nat.reduceBEq, ↓reduceIte, reduceCtorEq, SX.exit.injEq, if_true, if_false, Int.reduceAdd, Int.reduceSub, Int.reduceMul, Int.reduceLT, Int.reduceLE, Int.reduceEq, Int.reduceNe, Int.reduceNeg, Int.reduceToNat, Nat.reduceMul, Nat.reduceLT, Nat.reduceSub, Nat.reduceLeDiff]
      refine ⟨i + 1, by omega, by omega, ?_⟩
      refine ⟨[(50, .blk 50 0), (51, .blk 51 0), (52, .blk 52 0), (53, .blk 53 0)], rfl, (by repeat (first | exact RO.zero | exact RO.e | refine RO.set rfl ?_)), ?_, (by repeat (first | exact RT.nil | (refine RT.cons ?_ ?_; · (first | exact Rn.any | exact Rn.sl (Nat.le_of_ble_eq_true rfl) rfl | exact Rn.ptr (Nat.le_of_ble_eq_true rfl) rfl | exact Rn.map (Nat.le_of_ble_eq_true rfl) rfl | exact Rn.slnil (Nat.le_of_ble_eq_true rfl) rfl | exact Rn.slB (Nat.le_of_ble_eq_true rfl) | exact Rn.ptrB (Nat.le_of_ble_eq_true rfl) | exact Rn.mapB (Nat.le_of_ble_eq_true rfl) | (refine Rn.slot ?_ ?_; (first | rfl | (rw [Int.natCast_add]; rfl)); (first | rfl | (simp only [noRef, noRefs, noRefs_append, Bool.and_self, Bool.and_true, Bool.true_and, noRefs_flat10, noRefs_ints, noRefs_lsts, noRefs_pad, noRefs_tnC, noRefs_arcC, noRefs_rowF, noRefs_flowC]; done))) | (refine Rn.fn ?_ ?_ <;> (repeat' (first | exact RnL.nil | refine RnL.cons ?_ ?_ | exact Rn.same rfl | exact Rn.ptrB (Nat.le_of_ble_eq_true rfl) | exact Rn.ptr (Nat.le_of_ble_eq_true rfl) rfl | exact Rn.slB (Nat.le_of_ble_eq_true rfl) | exact Rn.sl (Nat.le_of_ble_eq_true rfl) rfl)))))))⟩
      refine RB.cells rfl rfl rfl (RnL.same (noRefs_lsts _)) (RB.cells rfl rfl rfl ?_ (RB.cells rfl rfl rfl (RnL.same hfr) (RB.cells rfl rfl rfl (RnL.eq (rowF_congr fun p _ => ?_) (noRefs_rowF _ _)) RB.nil)))
      rotate_right 1
      · by_cases e : p = i
        · subst e; simp
        · have : (p < i + 1) ↔ (p < i) := by omega
          simp only [this, e, if_false]
      repeat' (first | exact RB.nil | (refine RnL.same ?_; first | rfl | (simp only [noRef, noRefs, noRefs_append, Bool.and_self, Bool.and_true, Bool.true_and, noRefs_flat10, noRefs_ints, noRefs_lsts, noRefs_pad, noRefs_tnC, noRefs_arcC, noRefs_rowF, noRefs_flowC]; done)) | exact RnM.keyM rfl | exact RnL.nil | refine RnL.cons ?_ ?_ | (refine Rn.same ?_; first | rfl | (simp only [noRef, noRefs, noRefs_append, Bool.and_self, Bool.and_true, Bool.true_and, noRefs_flat10, noRefs_ints, noRefs_lsts, noRefs_pad, noRefs_tnC, noRefs_arcC, noRefs_rowF, noRefs_flowC]; done)) | exact Rn.sl (Nat.le_of_ble_eq_true rfl) rfl | exact Rn.ptr (Nat.le_of_ble_eq_true rfl) rfl | exact Rn.map (Nat.le_of_ble_eq_true rfl) rfl | exact Rn.slnil (Nat.le_of_ble_eq_true rfl) rfl | exact Rn.slB (Nat.le_of_ble_eq_true rfl) | exact Rn.ptrB (Nat.le_of_ble_eq_true rfl) | exact Rn.mapB (Nat.le_of_ble_eq_true rfl) | refine RB.newnil rfl rfl ?_ | refine RB.cells rfl rfl rfl ?_ ?_ | refine RB.map rfl rfl rfl ?_ ?_ | refine RB.cellsB rfl rfl ?_ ?_ | refine RB.mapB rfl rfl ?_ ?_)
    · have e : i = K := by omega
      simp (config := { maxSteps := 1000000 }) (disch := first | omega | (simp only [List.length_map, List.length_append, List.length_cons, List.length_nil, ints_len] <;> omega)) only [hil, hlt, wordsN, Int.reduceGT, wordsR, ne_eq, words, Nat.reduceAdd, Nat.reduceEqDiff, Nat.reduceBEq, ↓reduceIte, reduceCtorEq, SX.exit.injEq, if_true, if_false, Int.reduceAdd, Int.reduceSub, Int.reduceMul, Int.reduceLT, Int.reduceLE, Int.reduceEq, Int.reduceNe, Int.reduceNeg, Int.reduceToNat, Nat.reduceMul, Nat.reduceLT, Nat.reduceSub, Nat.reduceLeDiff]
      refine ⟨a + 1, by omega, by omega, ?_⟩
      refine ⟨[(50, .blk 50 1), (51, .blk 51 0)], rfl, (by repeat (first | exact RO.zero | exact RO.e | refine RO.set rfl ?_)), ?_, (by repeat (first | exact RT.nil | (refine RT.cons ?_ ?_; · (first | exact Rn.any | exact Rn.sl (Nat.le_of_ble_eq_true rfl) rfl | exact Rn.ptr (Nat.le_of_ble_eq_true rfl) rfl | exact Rn.map (Nat.le_of_ble_eq_true rfl) rfl | exact Rn.slnil (Nat.le_of_ble_eq_true rfl) rfl | exact Rn.slB (Nat.le_of_ble_eq_true rfl) | exact Rn.ptrB (Nat.le_of_ble_eq_true rfl) | exact Rn.mapB (Nat.le_of_ble_eq_true rfl) | (refine Rn.slot ?_ ?_; (first | rfl | (rw [Int.natCast_add]; rfl)); (first | rfl | (simp only [noRef, noRefs, noRefs_append, Bool.and_self, Bool.and_true, Bool.true_and, noRefs_flat10, noRefs_ints, noRefs_lsts, noRefs_pad, noRefs_tnC, noRefs_arcC, noRefs_rowF, noRefs_flowC]; done))) | (refine Rn.fn ?_ ?_ <;> (repeat' (first | exact RnL.nil | refine RnL.cons ?_ ?_ | exact Rn.same rfl | exact Rn.ptrB (Nat.le_of_ble_eq_true rfl) | exact Rn.ptr (Nat.le_of_ble_eq_true rfl) rfl | exact Rn.slB (Nat.le_of_ble_eq_true rfl) | exact Rn.sl (Nat.le_of_ble_eq_true rfl) rfl)))))))⟩
      rw [hls]
      refine RB.cells rfl rfl rfl (RnL.append (RnL.same (noRefs_lsts _)) (RnL.cons (Rn.fzm rfl rfl rfl (by simp) (by rw [rowF_len, Nat.mul_one]) (RnL.eq ?_ (noRefs_ints _))) RnL.nil)) (RB.cells rfl rfl rfl ?_ RB.nil)
      · show rowF K f.2 = _
        exact rowF_congr fun p hp => (if_pos (by omega)).symm
      · repeat' (first | exact RB.nil | (refine RnL.same ?_; first | rfl | (simp only [noRef, noRefs, noRefs_append, Bool.and_self, Bool.and_true, Bool.true_and, noRefs_flat10, noRefs_ints, noRefs_lsts, noRefs_pad, noRefs_tnC, noRefs_arcC, noRefs_rowF, noRefs_flowC]; done)) | exact RnM.keyM rfl | exact RnL.nil | refine RnL.cons ?_ ?_ | (refine Rn.same ?_; first | rfl | (simp only [noRef, noRefs, noRefs_append, Bool.and_self, Bool.and_true, Bool.true_and, noRefs_flat10, noRefs_ints, noRefs_lsts, noRefs_pad, noRefs_tnC, noRefs_arcC, noRefs_rowF, noRefs_flowC]; done)) | exact Rn.sl (Nat.le_of_ble_eq_true rfl) rfl | exact Rn.ptr (Nat.le_of_ble_eq_true rfl) rfl | exact Rn.map (Nat.le_of_ble_eq_true rfl) rfl | exact Rn.slnil (Nat.le_of_ble_eq_true rfl) rfl | exact Rn.slB (Nat.le_of_ble_eq_true rfl) | exact Rn.ptrB (Nat.le_of_ble_eq_true rfl) | exact Rn.mapB (Nat.le_of_ble_eq_true rfl) | refine RB.newnil rfl rfl ?_ | refine RB.cells rfl rfl rfl ?_ ?_ | refine RB.map rfl rfl rfl ?_ ?_ | refine RB.cellsB rfl rfl ?_ ?_ | refine RB.mapB rfl rfl ?_ ?_)
  · have e : a = F.length := by omega
    subst e
    simp (config := { maxSteps := 1000000 }) (disch := first | omega | (simp only [List.length_map, List.length_append, List.length_cons, List.length_nil, ints_len] <;> omega)) only [hlt, wordsN, Int.reduceGT, wordsR, ne_eq, words, Nat.reduceAdd, Nat.reduceEqDiff, Nat.reduceBEq, ↓reduceIte, reduceCtorEq, SX.exit.injEq, if_true, if_false, Int.reduceAdd, Int.reduceSub, Int.reduceMul, Int.reduceLT, Int.reduceLE, Int.reduceEq, Int.reduceNe, Int.reduceNeg, Int.reduceToNat, Nat.reduceMul, Nat.reduceLT, Nat.reduceSub, Nat.reduceLeDiff]
    refine ⟨.inr trivial, _, rfl, ?_⟩
    refine Rn.tup (RnL.cons ?_ (RnL.same rfl))
    have hlen : (listR K F).length = F.length := by simp [listR]
    show Rn 0 π0 _ (.fsl ((listR K F).map sli) (listR K F).length 1) _
    rw [hlen]
    exact Rn.fz0 rfl (by simp [hlen]) (RnL.same (noRefs_lsts _))
end Go.AM.SN
namespace Go.AM.SN
open Go.Proofs Go.AM.SK
set_option maxRecDepth 100000
set_option linter.unusedSimpArgs false
set_option linter.unusedVariables false
-- NA: noRef_net, noRef_sli, noRef_lsts, noRef_arcs, noRef_tns, noRef_tab
-- NR: noRefs_flat10, noRefs_ints, noRefs_lsts, noRefs_pad, noRefs_tnC, noRefs_arcC, noRefs_rowF, noRefs_flowC, noRef_tab
theorem MinimalT (x : Nt) (kind : Int) (K : Nat) (R : List (List Int)) (hT : PSpec Try.prog 39 [netV x, .int .i64 kind] (.tup [tabV K R, .int .i64 0]))
    (hK : K ≤ 5) (hR : R.length ≤ 100) (hRk : ∀ r ∈ R, r.length = K) (hRb : ∀ r ∈ R, ∀ x ∈ r, -8 ≤ x ∧ x ≤ 8) (hW : ∀ f ∈ minF R K K, ∀ i, i < K → f.2 i ≤ 65536) :
    PSpec Try.prog 14 [netV x, .int .i64 kind] (.tup [lsts (listR K (minF R K K)), .int .i64 0]) := by
  refine PSpec.of_rn 64 SM.ok14 rfl (by rw [noRefs, noRef_net]; rfl) (by simp only [noRef, noRefs, noRefs_lsts]; rfl) ?_
  have hl := listedP K R hK hR hRk hRb hW
  simp (config := { maxSteps := 1000000 }) (disch := first | omega | (simp only [List.length_map, List.length_append, List.length_cons, List.length_nil, ints_len] <;> omega)) only [SM.s14, wordsN, Int.reduceGT, wordsR, ne_eq, words, Nat.reduceAdd, Nat.reduceEqDiff, Nat.reduceBEq, ↓reduceIte, reduceCtorEq, SX.exit.injEq, if_true, if_false, Int.reduceAdd, Int.reduceSub, Int.reduceMul, Int.reduceLT, Int.reduceLE, Int.reduceEq, Int.reduceNe, Int.reduceNeg, Int.reduceToNat, Nat.reduceMul, Nat.reduceLT, Nat.reduceSub, Nat.reduceLeDiff]
  refine cp hT ?_
  simp (config := { maxSteps := 1000000 }) (disch := first | omega | (simp only [List.length_map, List.length_append, List.length_cons, List.length_nil, ints_len] <;> omega)) only [wordsN, Int.reduceGT, wordsR, ne_eq, words, Nat.reduceAdd, Nat.reduceEqDiff, Nat.reduceBEq, ↓reduceIte, reduceCtorEq, SX.exit.injEq, if_true, if_false, Int.reduceAdd, Int.reduceSub, Int.reduceMul, Int.reduceLT, Int.reduceLE, Int.reduceEq, Int.reduceNe, Int.reduceNeg, Int.reduceToNat, Nat.reduceMul, Nat.reduceLT, Nat.reduceSub, Nat.reduceLeDiff]
  refine cp hl ?_
  simp (config := { maxSteps := 1000000 }) (disch := first | omega | (simp only [List.length_map, List.length_append, List.length_cons, List.length_nil, ints_len] <;> omega)) only [wordsN, Int.reduceGT, wordsR, ne_eq, words, Nat.reduceAdd, Nat.reduceEqDiff, Nat.reduceBEq, ↓reduceIte, reduceCtorEq, SX.exit.injEq, if_true, if_false, Int.reduceAdd, Int.reduceSub, Int.reduceMul, Int.reduceLT, Int.reduceLE, Int.reduceEq, Int.reduceNe, Int.reduceNeg, Int.reduceToNat, Nat.reduceMul, Nat.reduceLT, Nat.reduceSub, Nat.reduceLeDiff]
  exact ⟨.inr trivial, _, rfl, Rn.same (by simp only [resOf, noRef, noRefs, noRefs_lsts]; rfl)⟩
def covR (F : List Flow) : Nat := F.foldl (fun a f => a ||| f.1) 0
theorem covR_take {F : List Flow} {a : Nat} {f : Flow} (h : F[a]? = some f) : covR (F.take (a + 1)) = covR (F.take a) ||| f.1 := by
  unfold covR
  rw [List.take_add_one, List.foldl_append, h]; rfl
theorem covR_lt {F : List Flow} (h : ∀ f ∈ F, f.1 < 65536) : covR F < 65536 := by
  unfold covR
  have : ∀ (l : List Flow) (a : Nat), (∀ c ∈ l, c.1 < 65536) → a < 65536 → l.foldl (fun a c => a ||| c.1) a < 65536 := by
    intro l
    induction l with
    | nil => intro a _ ha; exact ha
    | cons c l ih =>
      intro a hl ha
      rw [List.foldl_cons]
      exact ih _ (fun c hc => hl c (by simp [hc])) (Nat.or_lt_two_pow (n := 16) ha (hl c (by simp)))
  exact this F 0 h (by decide)
set_option maxHeartbeats 8000000 in
theorem CoveredT (x : Nt) (kind : Int) (K : Nat) (R : List (List Int)) (hT : PSpec Try.prog 39 [netV x, .int .i64 kind] (.tup [tabV K R, .int .i64 0]))
    (hK : K ≤ 5) (hR : R.length ≤ 100) (hRk : ∀ r ∈ R, r.length = K) (hRb : ∀ r ∈ R, ∀ x ∈ r, -8 ≤ x ∧ x ≤ 8) :
    PSpec Try.prog 15 [netV x, .int .i64 kind] (.tup [.bool (decide (covR (minF R K K) = 2 ^ K - 1)), .int .i64 0]) := by
  refine PSpec.of_rn 64 SM.ok15 rfl (by rw [noRefs, noRef_net]; rfl) rfl ?_
  have hm := minimalP K R hK hR hRk hRb
  have hl := minF_len R (K := K) (by omega) K (by omega)
  have hs := minF_sup R (K := K) (by omega) K (by omega)
  generalize minF R K K = F at *
  have hsh := shl16 (c := K) (k := .i64) (by omega)
  have h1 := shl_lt (c := K) (by omega)
  have e2 : 1 <<< K = 2 ^ K := by rw [Nat.shiftLeft_eq, Nat.one_mul]
  have h2 : 0 < 2 ^ K := Nat.two_pow_pos K
  rw [e2] at hsh h1
  generalize 2 ^ K = p at *
  simp (config := { maxSteps := 1000000 }) (disch := first | omega | (simp only [List.length_map, List.length_append, List.length_cons, List.length_nil, ints_len] <;> omega)) only [SM.s15, wordsN, Int.reduceGT, wordsR, ne_eq, words, Nat.reduceAdd, Nat.reduceEqDiff, Nat.reduceBEq, ↓reduceIte, reduceCtorEq, SX.exit.injEq, if_true, if_false, Int.reduceAdd, Int.reduceSub, Int.reduceMul, Int.reduceLT, Int.reduceLE, Int.reduceEq, Int.reduceNe, Int.reduceNeg, Int.reduceToNat, Nat.reduceMul, Nat.reduceLT, Nat.reduceSub, Nat.reduceLeDiff]
  refine cp hT ?_
  simp (config := { maxSteps := 1000000 }) (disch := first | omega | (simp only [List.length_map, List.length_append, List.length_cons, List.length_nil, ints_len] <;> omega)) only [wordsN, Int.reduceGT, wordsR, ne_eq, words, Nat.reduceAdd, Nat.reduceEqDiff, Nat.reduceBEq, ↓reduceIte, reduceCtorEq, SX.exit.injEq, if_true, if_false, Int.reduceAdd, Int.reduceSub, Int.reduceMul, Int.reduceLT, Int.reduceLE, Int.reduceEq, Int.reduceNe, Int.reduceNeg, Int.reduceToNat, Nat.reduceMul, Nat.reduceLT, Nat.reduceSub, Nat.reduceLeDiff]
  refine cp hm ?_
  simp (config := { maxSteps := 1000000 }) (disch := first | omega | (simp only [List.length_map, List.length_append, List.length_cons, List.length_nil, ints_len] <;> omega)) only [wordsN, Int.reduceGT, wordsR, ne_eq, words, Nat.reduceAdd, Nat.reduceEqDiff, Nat.reduceBEq, ↓reduceIte, reduceCtorEq, SX.exit.injEq, if_true, if_false, Int.reduceAdd, Int.reduceSub, Int.reduceMul, Int.reduceLT, Int.reduceLE, Int.reduceEq, Int.reduceNe, Int.reduceNeg, Int.reduceToNat, Nat.reduceMul, Nat.reduceLT, Nat.reduceSub, Nat.reduceLeDiff]
  refine wS_loopR 100 (fun a : Nat => [(6, .ptr 51 0 0), (8, .int .u16 (covR (F.take a) : Nat)), (21, flowsV F), (22, .int .i64 F.length), (23, .int .i64 a)])
    (fun a => [(51, .cells 0 [.int .i64 K, .fsl (R.flatMap pad) R.length 10])]) (fun a => a ≤ F.length) (fun a => F.length - a) 0 ?_ (Nat.zero_le _) ?_
  · exact ⟨[(51, .blk 73 0)], rfl, (by repeat (first | exact RO.zero | exact RO.e | refine RO.set rfl ?_)), (by repeat' (first | exact RB.nil | (refine RnL.same ?_; first | rfl | (simp only [noRef, noRefs, noRefs_append, Bool.and_self, Bool.and_true, Bool.true_and, noRefs_flat10, noRefs_ints, noRefs_lsts, noRefs_pad, noRefs_tnC, noRefs_arcC, noRefs_rowF, noRefs_flowC, noRef_tab]; done)) | exact RnM.keyM rfl | exact RnL.nil | refine RnL.cons ?_ ?_ | (refine Rn.same ?_; first | rfl | (simp only [noRef, noRefs, noRefs_append, Bool.and_self, Bool.and_true, Bool.true_and, noRefs_flat10, noRefs_ints, noRefs_lsts, noRefs_pad, noRefs_tnC, noRefs_arcC, noRefs_rowF, noRefs_flowC, noRef_tab]; done)) | exact Rn.sl (Nat.le_of_ble_eq_true rfl) rfl | exact Rn.ptr (Nat.le_of_ble_eq_true rfl) rfl | exact Rn.map (Nat.le_of_ble_eq_true rfl) rfl | exact Rn.slnil (Nat.le_of_ble_eq_true rfl) rfl | exact Rn.slB (Nat.le_of_ble_eq_true rfl) | exact Rn.ptrB (Nat.le_of_ble_eq_true rfl) | exact Rn.mapB (Nat.le_of_ble_eq_true rfl) | refine RB.newnil rfl rfl ?_ | refine RB.cells rfl rfl rfl ?_ ?_ | refine RB.map rfl rfl rfl ?_ ?_ | refine RB.cellsB rfl rfl ?_ ?_ | refine RB.mapB rfl rfl ?_ ?_)), (by repeat (first | exact RT.nil | (refine RT.cons ?_ ?_; · (first | exact Rn.any | exact Rn.sl (Nat.le_of_ble_eq_true rfl) rfl | exact Rn.ptr (Nat.le_of_ble_eq_true rfl) rfl | exact Rn.map (Nat.le_of_ble_eq_true rfl) rfl | exact Rn.slnil (Nat.le_of_ble_eq_true rfl) rfl | exact Rn.slB (Nat.le_of_ble_eq_true rfl) | exact Rn.ptrB (Nat.le_of_ble_eq_true rfl) | exact Rn.mapB (Nat.le_of_ble_eq_true rfl) | (refine Rn.slot ?_ ?_; (first | rfl | (rw [Int.natCast_add]; rfl)); (first | rfl | (simp only [noRef, noRefs, noRefs_append, Bool.and_self, Bool.and_true, Bool.true_and, noRefs_flat10, noRefs_ints, noRefs_lsts, noRefs_pad, noRefs_tnC, noRefs_arcC, noRefs_rowF, noRefs_flowC, noRef_tab]; done))) | (refine Rn.fn ?_ ?_ <;> (repeat' (first | exact RnL.nil | refine RnL.cons ?_ ?_ | exact Rn.same rfl | exact Rn.ptrB (Nat.le_of_ble_eq_true rfl) | exact Rn.ptr (Nat.le_of_ble_eq_true rfl) rfl | exact Rn.slB (Nat.le_of_ble_eq_true rfl) | exact Rn.sl (Nat.le_of_ble_eq_true rfl) rfl)))))))⟩
  intro a ha
  by_cases hlt : a < F.length
  · obtain ⟨f, hf⟩ := get_ex hlt
    have hfm := List.mem_of_getElem? hf
    have hd := flowC_at hf
    have hor := or16 (covR_lt fun f hf => hs f (List.mem_of_mem_take hf) : covR (F.take a) < 65536) (hs f hfm)
    have ht11 : ((AV.int .u16 (f.1 : Nat) :: rowF 10 f.2) ++ flowC (F.drop (a + 1))).take 11 = AV.int .u16 (f.1 : Nat) :: rowF 10 f.2 := by rw [← flow_len f, List.take_left']; rfl
    have hl11 : (11 ≤ ((AV.int .u16 (f.1 : Nat) :: rowF 10 f.2) ++ flowC (F.drop (a + 1))).length) = True := by simp only [List.length_append, flow_len]; exact eq_true (by omega)
    have hone : (AV.int .u16 (f.1 : Nat) :: rowF 10 f.2).all AV.one = true := by rw [List.all_cons, one_rowF]; rfl
    have hfl := flow_len f
    have hp := put11 (f := f)
    have h0 : (AV.int .u16 (f.1 : Nat) :: rowF 10 f.2)[0]? = some (.int .u16 (f.1 : Nat)) := rfl
    generalize hfc : (AV.int .u16 (f.1 : Nat) :: rowF 10 f.2) = fc at *
    simp (config := { maxSteps := 1000000 }) (disch := first | omega | (simp only [List.length_map, List.length_append, List.length_cons, List.length_nil, ints_len] <;> omega)) only [hlt, hd, ht11, hl11, hfl, hone, hp, h0, hor, wordsN, Int.reduceGT, wordsR, ne_eq, words, Nat.reduceAdd, Nat.reduceEqDiff, Nat.reduceBEq, ↓reduceIte, reduceCtorEq, SX.exit.injEq, if_true, if_false, Int.reduceAdd, Int.reduceSub, Int.reduceMul, Int.reduceLT, Int.reduceLE, Int.reduceEq, Int.reduceNe, Int.reduceNeg, Int.reduceToNat, Nat.reduceMul, Nat.reduceLT, Nat.reduceSub, Nat.reduceLeDiff]
    refine ⟨a + 1, by omega, by omega, ?_⟩
    rw [covR_take hf]
    exact ⟨[(51, .blk 51 0)], rfl, (by repeat (first | exact RO.zero | exact RO.e | refine RO.set rfl ?_)), (by repeat' (first | exact RB.nil | (refine RnL.same ?_; first | rfl | (simp only [noRef, noRefs, noRefs_append, Bool.and_self, Bool.and_true, Bool.true_and, noRefs_flat10, noRefs_ints, noRefs_lsts, noRefs_pad, noRefs_tnC, noRefs_arcC, noRefs_rowF, noRefs_flowC, noRef_tab]; done)) | exact RnM.keyM rfl | exact RnL.nil | refine RnL.cons ?_ ?_ | (refine Rn.same ?_; first | rfl | (simp only [noRef, noRefs, noRefs_append, Bool.and_self, Bool.and_true, Bool.true_and, noRefs_flat10, noRefs_ints, noRefs_lsts, noRefs_pad, noRefs_tnC, noRefs_arcC, noRefs_rowF, noRefs_flowC, noRef_tab]; done)) | exact Rn.sl (Nat.le_of_ble_eq_true rfl) rfl | exact Rn.ptr (Nat.le_of_ble_eq_true rfl) rfl | exact Rn.map (Nat.le_of_ble_eq_true rfl) rfl | exact Rn.slnil (Nat.le_of_ble_eq_true rfl) rfl | exact Rn.slB (Nat.le_of_ble_eq_true rfl) | exact Rn.ptrB (Nat.le_of_ble_eq_true rfl) | exact Rn.mapB (Nat.le_of_ble_eq_true rfl) | refine RB.newnil rfl rfl ?_ | refine RB.cells rfl rfl rfl ?_ ?_ | refine RB.map rfl rfl rfl ?_ ?_ | refine RB.cellsB rfl rfl ?_ ?_ | refine RB.mapB rfl rfl ?_ ?_)), (by repeat (first | exact RT.nil | (refine RT.cons ?_ ?_; · (first | exact Rn.any | exact Rn.sl (Nat.le_of_ble_eq_true rfl) rfl | exact Rn.ptr (Nat.le_of_ble_eq_true rfl) rfl | exact Rn.map (Nat.le_of_ble_eq_true rfl) rfl | exact Rn.slnil (Nat.le_of_ble_eq_true rfl) rfl | exact Rn.slB (Nat.le_of_ble_eq_true rfl) | exact Rn.ptrB (Nat.le_of_ble_eq_true rfl) | exact Rn.mapB (Nat.le_of_ble_eq_true rfl) | (refine Rn.slot ?_ ?_; (first | rfl | (rw [Int.natCast_add]; rfl)); (first | rfl | (simp only [noRef, noRefs, noRefs_append, Bool.and_self, Bool.and_true, Bool.true_and, noRefs_flat10, noRefs_ints, noRefs_lsts, noRefs_pad, noRefs_tnC, noRefs_arcC, noRefs_rowF, noRefs_flowC, noRef_tab]; done))) | (refine Rn.fn ?_ ?_ <;> (repeat' (first | exact RnL.nil | refine RnL.cons ?_ ?_ | exact Rn.same rfl | exact Rn.ptrB (Nat.le_of_ble_eq_true rfl) | exact Rn.ptr (Nat.le_of_ble_eq_true rfl) rfl | exact Rn.slB (Nat.le_of_ble_eq_true rfl) | exact Rn.sl (Nat.le_of_ble_eq_true rfl) rfl)))))))⟩
  · have e : a = F.length := by omega
    subst e
    have hcl := covR_lt hs
    rw [List.take_length]
    simp (config := { maxSteps := 1000000 }) (disch := first | omega | (simp only [List.length_map, List.length_append, List.length_cons, List.length_nil, ints_len] <;> omega)) only [hlt, hsh, wordsN, Int.reduceGT, wordsR, ne_eq, words, Nat.reduceAdd, Nat.reduceEqDiff, Nat.reduceBEq, ↓reduceIte, reduceCtorEq, SX.exit.injEq, if_true, if_false, Int.reduceAdd, Int.reduceSub, Int.reduceMul, Int.reduceLT, Int.reduceLE, Int.reduceEq, Int.reduceNe, Int.reduceNeg, Int.reduceToNat, Nat.reduceMul, Nat.reduceLT, Nat.reduceSub, Nat.reduceLeDiff]
    have e3 : (((covR F : Nat) : Int) = (p : Int) - 1) ↔ (covR F = p - 1) := by omega
    simp only [e3]
    exact ⟨.inr trivial, _, rfl, Rn.same rfl⟩
end Go.AM.SN
namespace Go.AM.SN
open Go.Proofs Go.AM.SK
set_option linter.unusedSimpArgs false
set_option linter.unusedVariables false
theorem visit_mem {R : List (List Int)} {F : List Flow} {s : List Nat} {f : Flow} (h : f ∈ visitR R F s) : f ∈ F ∨ ∃ l, kerR R s = some l ∧ (∀ x ∈ l, 0 ≤ x) ∧ f = (supOf s, scat s l) := by
  unfold visitR at h
  split at h
  · exact .inl h
  · split at h
    · exact .inl h
    · rename_i l hk
      split at h
      · exact .inl h
      · rename_i hn
        rcases List.mem_append.1 h with h | h
        · exact .inl h
        · simp only [List.mem_singleton] at h
          refine .inr ⟨l, hk, fun x hx => ?_, h⟩
          rw [Bool.not_eq_true, List.any_eq_false] at hn
          have := hn x hx
          simpa using this
theorem foldV_mem {R : List (List Int)} : ∀ {S : List (List Nat)} {F : List Flow} {f : Flow}, f ∈ foldV R F S → f ∈ F ∨ ∃ s ∈ S, ∃ l, kerR R s = some l ∧ (∀ x ∈ l, 0 ≤ x) ∧ f = (supOf s, scat s l)
  | [], F, f, h => .inl h
  | s :: S, F, f, h => by
    rcases foldV_mem (S := S) (F := visitR R F s) h with h | ⟨t, ht, h⟩
    · rcases visit_mem h with h | h
      · exact .inl h
      · exact .inr ⟨s, by simp, h⟩
    · exact .inr ⟨t, by simp [ht], h⟩
theorem minF_mem {R : List (List Int)} {K : Nat} : ∀ {m : Nat} {f : Flow}, f ∈ minF R K m → ∃ k s l, 0 < k ∧ k ≤ m ∧ s ∈ setsF k K 0 ∧ kerR R s = some l ∧ (∀ x ∈ l, 0 ≤ x) ∧ f = (supOf s, scat s l)
  | 0, f, h => by simp [minF] at h
  | m + 1, f, h => by
    rcases foldV_mem h with h | ⟨s, hs, l, h1, h2, h3⟩
    · obtain ⟨k, s, l, a, b, c⟩ := minF_mem h
      exact ⟨k, s, l, a, by omega, c⟩
    · exact ⟨m + 1, s, l, by omega, by omega, hs, h1, h2, h3⟩
theorem scat_not {s : List Nat} {l : List Int} {c : Nat} (h : c ∉ s) (hl : l.length = s.length) : scat s l c = 0 := by
  have : ∀ i, i ≤ s.length → scat (s.take i) (l.take i) c = 0 := by
    intro i
    induction i with
    | zero => intro _; simp [scat]
    | succ i ih =>
      intro hi
      obtain ⟨d, hd⟩ := get_ex (l := s) (i := i) (by omega)
      obtain ⟨x, hx⟩ := get_ex (l := l) (i := i) (by omega)
      rw [scat_take hd hx]
      have hne : c ≠ d := fun e => h (e ▸ List.mem_of_getElem? hd)
      simp only [if_neg hne]
      exact ih (by omega)
  have h1 := this s.length (Nat.le_refl _)
  rw [List.take_length, ← hl, List.take_length] at h1; exact h1
theorem scat_at {s : List Nat} {l : List Int} {p c : Nat} {x : Int} (hs : s.Pairwise (· < ·)) (hl : l.length = s.length) (hc : s[p]? = some c) (hx : l[p]? = some x) : scat s l c = x := by
  have : ∀ i, i ≤ s.length → p < i → scat (s.take i) (l.take i) c = x := by
    intro i
    induction i with
    | zero => intro _ h; omega
    | succ i ih =>
      intro hi hp
      obtain ⟨d, hd⟩ := get_ex (l := s) (i := i) (by omega)
      obtain ⟨y, hy⟩ := get_ex (l := l) (i := i) (by omega)
      rw [scat_take hd hy]
      by_cases e : p = i
      · subst e
        rw [hc] at hd; cases hd
        rw [hx] at hy; cases hy
        simp
      · have hlt : p < i := by omega
        have hne : c ≠ d := by
          obtain ⟨h1, e1⟩ := List.getElem?_eq_some_iff.1 hc
          obtain ⟨h2, e2⟩ := List.getElem?_eq_some_iff.1 hd
          have := List.pairwise_iff_getElem.1 hs p i h1 h2 hlt
          omega
        simp only [if_neg hne]
        exact ih (by omega) hlt
  have hp := (List.getElem?_eq_some_iff.1 hc).1
  have h1 := this s.length (Nat.le_refl _) hp
  rw [List.take_length, ← hl, List.take_length] at h1; exact h1
theorem scat_cases (s : List Nat) (l : List Int) (c : Nat) : scat s l c = 0 ∨ scat s l c ∈ l := by
  unfold scat
  have : ∀ (z : List (Nat × Int)) (f : Nat → Int), (f c = 0 ∨ f c ∈ l) → (∀ p ∈ z, p.2 ∈ l) → ((z.foldl (fun f p => fun c => if c = p.1 then p.2 else f c) f) c = 0 ∨ (z.foldl (fun f p => fun c => if c = p.1 then p.2 else f c) f) c ∈ l) := by
    intro z
    induction z with
    | nil => intro f hf _; exact hf
    | cons p z ih =>
      intro f hf hz
      rw [List.foldl_cons]
      refine ih _ ?_ fun q hq => hz q (by simp [hq])
      by_cases e : c = p.1
      · simp only [if_pos e]; exact .inr (hz p (by simp))
      · simp only [if_neg e]; exact hf
  exact this _ _ (.inl rfl) fun p hp => (List.of_mem_zip hp).2
theorem sumN_upd (a f : Nat → Int) (c : Nat) (x : Int) (h0 : f c = 0) : ∀ n, sumN (fun j => a j * (if j = c then x else f j)) n = sumN (fun j => a j * f j) n + if c < n then a c * x else 0
  | 0 => by simp [sumN]
  | n + 1 => by
    have ih := sumN_upd a f c x h0 n
    simp only [sumN, ih]
    by_cases e : n = c
    · subst e
      simp [h0]
    · have e' : ¬ c = n := fun h => e h.symm
      by_cases h : c < n
      · rw [if_pos h, if_neg e, if_pos (by omega)]; omega
      · rw [if_neg h, if_neg e, if_neg (by omega)]; omega
theorem scat_sum {s : List Nat} {l : List Int} {r : List Int} (hs : s.Pairwise (· < ·)) (hl : l.length = s.length) (hc : ∀ c ∈ s, c < r.length) : rowSum r ((List.range r.length).map (scat s l)) = rowSum (rrow s r) l := by
  have : ∀ i, i ≤ s.length → rowSum r ((List.range r.length).map (scat (s.take i) (l.take i))) = rowSum ((rrow s r).take i) (l.take i) := by
    intro i
    induction i with
    | zero =>
      intro _
      rw [rowSum_sumN]
      have : ∀ n, sumN (fun c => r.getD c 0 * scat (s.take 0) (l.take 0) c) n = 0 := by
        intro n
        induction n with
        | zero => rfl
        | succ n ih => simp only [sumN, ih]; simp [scat]
      rw [this]; simp [rowSum]
    | succ i ih =>
      intro hi
      obtain ⟨d, hd⟩ := get_ex (l := s) (i := i) (by omega)
      obtain ⟨y, hy⟩ := get_ex (l := l) (i := i) (by omega)
      have h0 : scat (s.take i) (l.take i) d = 0 := by
        refine scat_not ?_ (by simp [hl])
        intro hm
        obtain ⟨j, hj, hjd⟩ := mem_at hm
        have hjlt : j < i := by
          have := (List.getElem?_eq_some_iff.1 hj).1
          rw [List.length_take] at this; omega
        rw [List.getElem?_take_of_lt hjlt] at hj
        obtain ⟨h1, e1⟩ := List.getElem?_eq_some_iff.1 hj
        obtain ⟨h2, e2⟩ := List.getElem?_eq_some_iff.1 hd
        have := List.pairwise_iff_getElem.1 hs j i h1 h2 hjlt
        omega
      have ih := ih (by omega)
      rw [rowSum_sumN] at ih
      rw [rowSum_sumN, scat_take hd hy, sumN_upd _ _ _ _ h0, if_pos (hc d (List.mem_of_getElem? hd)), ih]
      have hr : (rrow s r)[i]? = some (r.getD d 0) := by simp [rrow, hd]
      rw [rowSum_take hr hy]
  have h1 := this s.length (Nat.le_refl _)
  have hrl : (rrow s r).length = s.length := by simp [rrow]
  rw [List.take_length, ← hl, List.take_length, hl, ← hrl, List.take_length] at h1
  exact h1
/-- What the minimal semiflows are. -/
theorem minF_prop {R : List (List Int)} {K : Nat} (hK : K ≤ 5) (hRk : ∀ r ∈ R, r.length = K) (hB : ∀ r ∈ R, ∀ x ∈ r, x.natAbs ≤ 2) {f : Flow} (h : f ∈ minF R K K) :
    (∀ i, 0 ≤ f.2 i ∧ f.2 i ≤ 384) ∧ (∀ r ∈ R, rowSum r ((List.range K).map f.2) = 0) ∧ ∃ i, i < K ∧ f.2 i ≠ 0 := by
  obtain ⟨k, s, l, hk0, hkm, hs, hker, hl0, rfl⟩ := minF_mem h
  obtain ⟨hsl, hsc, hsp⟩ := sets_props K (by omega) k (by omega) s hs
  obtain ⟨hll, hlx, hz⟩ := ker_prop (by omega) (by omega) hB hker
  refine ⟨fun i => ?_, fun r hr => ?_, ?_⟩
  · rcases scat_cases s l i with e | e
    · dsimp only; rw [e]; omega
    · have := (hlx _ e).2; have := hl0 _ e; dsimp only; omega
  · have := scat_sum (r := r) hsp hll (fun c hc => by rw [hRk r hr]; exact hsc c hc)
    rw [hRk r hr] at this
    rw [this]; exact hz r hr
  · obtain ⟨c, hc⟩ := get_ex (l := s) (i := 0) (by omega)
    obtain ⟨x, hx⟩ := get_ex (l := l) (i := 0) (by omega)
    refine ⟨c, hsc c (List.mem_of_getElem? hc), ?_⟩
    dsimp only
    rw [scat_at hsp hll hc hx]
    exact (hlx x (List.mem_of_getElem? hx)).1
/-- The lists that Minimal gives. -/
abbrev minL (R : List (List Int)) (K : Nat) : List (List Int) := listR K (minF R K K)
theorem minL_prop {R : List (List Int)} {K : Nat} (hK : K ≤ 5) (hRk : ∀ r ∈ R, r.length = K) (hB : ∀ r ∈ R, ∀ x ∈ r, x.natAbs ≤ 2) {w : List Int} (h : w ∈ minL R K) :
    w.length = K ∧ (∀ x ∈ w, 0 ≤ x ∧ x ≤ 384) ∧ (∀ r ∈ R, rowSum r w = 0) ∧ w.all (· == 0) = false := by
  unfold minL listR at h
  obtain ⟨f, hf, rfl⟩ := List.mem_map.1 h
  obtain ⟨h1, h2, i, hi, h3⟩ := minF_prop hK hRk hB hf
  refine ⟨by simp, fun x hx => ?_, h2, ?_⟩
  · obtain ⟨j, _, rfl⟩ := List.mem_map.1 hx; exact h1 j
  · rw [Bool.eq_false_iff]
    intro ha
    have := List.all_eq_true.1 ha (f.2 i) (List.mem_map.2 ⟨i, by simpa using hi, rfl⟩)
    exact h3 (by simpa using this)
theorem minL_len {R : List (List Int)} {K : Nat} (hK : K ≤ 5) : (minL R K).length ≤ 50 := by
  have := minF_len R (K := K) (by omega) K (by omega)
  simp only [minL, listR, List.length_map]; omega
end Go.AM.SN
namespace Go.AM.SN
open Go.Proofs Go.AM.SK
set_option linter.unusedSimpArgs false
set_option linter.unusedVariables false
/-- Few places and transitions, small incidences. -/
structure Tiny (x : Nt) : Prop where
  places : x.ini.length ≤ 5
  trans : x.tr.length ≤ 5
  two : ∀ p, ∀ y ∈ incR x p, y.natAbs ≤ 2
theorem weightR_cases (l : List (Int × Int)) (p : Int) : weightR l p = 0 ∨ ∃ a ∈ l, weightR l p = a.2 := by
  induction l with
  | nil => exact .inl rfl
  | cons a l ih =>
    unfold weightR
    split
    · exact .inr ⟨a, by simp, rfl⟩
    · rcases ih with h | ⟨b, hb, h⟩
      · exact .inl h
      · exact .inr ⟨b, by simp [hb], h⟩
theorem arcR_two (row : List Nat) (f : Nat → Nat) (n : Nat) (hf : ∀ k, k < 9 → f k ≤ 2) (p : Int) : 0 ≤ weightR (arcR row f n) p ∧ weightR (arcR row f n) p ≤ 2 := by
  rcases weightR_cases (arcR row f n) p with h | ⟨a, ha, h⟩
  · rw [h]; omega
  · obtain ⟨q, _, _, h2, _⟩ := arcR_mem ha
    have := hf (row.getD q 0 % 9) (Nat.mod_lt _ (by decide))
    rw [h, h2]; omega
theorem mkN_tiny (s : Sm) : Tiny (mkN s) where
  places := by rw [mkN_places]; unfold plN; omega
  trans := by rw [mkN_trans]; omega
  two := fun p y hy => by
    simp only [incR, mkN, trR, List.map_map, List.mem_map, List.mem_range] at hy
    obtain ⟨k, _, rfl⟩ := hy
    have h1 := arcR_two (s.mv.getD k []) (· % 3) (plN s) (fun k _ => by show k % 3 ≤ 2; omega) p
    have h2 := arcR_two (s.mv.getD k []) (· / 3) (plN s) (fun k _ => by show k / 3 ≤ 2; omega) p
    simp only [Function.comp]
    omega
theorem tab_two {x : Nt} (ht : Tiny x) (kind : Int) : ∀ r ∈ tabR x kind, ∀ y ∈ r, y.natAbs ≤ 2 := by
  refine tabR_all kind (q := fun r => ∀ y ∈ r, y.natAbs ≤ 2) ht.two fun t y hy => ?_
  simp only [colR, List.mem_map] at hy
  obtain ⟨p, _, rfl⟩ := hy
  rw [List.getD_eq_getElem?_getD]
  cases hk : (incR x p)[t]? with
  | none => simp
  | some z => simpa using ht.two p z (List.mem_of_getElem? hk)
theorem tabC_five {x : Nt} (ht : Tiny x) (kind : Int) : tabC x kind ≤ 5 := by
  have := ht.places; have := ht.trans
  unfold tabC; split <;> omega
theorem tabR_cnt {x : Nt} (ht : Tiny x) (kind : Int) : (tabR x kind).length ≤ 5 := by
  have := ht.places; have := ht.trans
  unfold tabR; split <;> simp [colM, incM] <;> omega
/-- What Minimal gives. -/
abbrev minN (x : Nt) (kind : Int) : List (List Int) := minL (tabR x kind) (tabC x kind)
theorem MinimalN (x : Nt) (ho : NetOk x) (ht : Tiny x) (kind : Int) (hk : kind = 1 ∨ kind = 2) : PSpec Try.prog 14 [netV x, .int .i64 kind] (.tup [lsts (minN x kind), .int .i64 0]) := by
  have h2 := tab_two ht kind
  refine MinimalT x kind _ _ (newTable x ho kind hk) (tabC_five ht kind) (by have := tabR_cnt ht kind; omega) (tabR_len x kind) (fun r hr y hy => by have := h2 r hr y hy; omega) fun f hf i _ => ?_
  have := (minF_prop (tabC_five ht kind) (tabR_len x kind) h2 hf).1 i
  omega
theorem minN_prop {x : Nt} (ht : Tiny x) (kind : Int) {w : List Int} (h : w ∈ minN x kind) : w.length = tabC x kind ∧ (∀ y ∈ w, 0 ≤ y ∧ y ≤ 384) ∧ (∀ r ∈ tabR x kind, rowSum r w = 0) ∧ w.all (· == 0) = false :=
  minL_prop (tabC_five ht kind) (tabR_len x kind) (tab_two ht kind) h
theorem minN_len {x : Nt} (ht : Tiny x) (kind : Int) : (minN x kind).length ≤ 50 := minL_len (tabC_five ht kind)
end Go.AM.SN
set_option maxRecDepth 100000
namespace Go.AM.SQ
open Go.Proofs
-- overseer/overseerlaw48.InvariantKeeps
def s33 : SFn := ⟨48, [.tmp 6],
 (.seq (.region [⟨(some 3), .box .dyn (.t 0), [], none⟩,
   ⟨(some 6), .mov (.c (.int .i64 0)), [], none⟩] [] [0, 6])
 (.seq (.region [⟨(some 14), .load (some 2) (.t 3), [], none⟩,
   ⟨(some 15), .mov (.t 1), [], none⟩,
   ⟨(some 16), .call .pure (.f 39) [(.t 14), (.t 15)], [0, 1], none⟩,
   ⟨(some 13), .mov (.t 16), [2], none⟩,
   ⟨(some 17), .extract 0 (.t 13), [3], none⟩,
   ⟨(some 18), .extract 1 (.t 13), [3], none⟩,
   ⟨(some 7), .alloc .dyn (.agg [(.int .i64 0), .nilsl]), [], none⟩,
   ⟨none, .store 2 (.t 7) (.t 17), [6, 4, 2, 0, 1, 2, 3, 4, 6], none⟩,
   ⟨(some 8), .mov (.t 18), [5, 7, 0, 1, 2, 3, 4, 5, 6, 7], none⟩] [] [1, 3, 14, 15, 16, 13, 17, 18])
 (.seq (.seq (.region [⟨(some 19), .mov (.t 8), [], none⟩,
   ⟨(some 20), .bin .neq (.t 19) (.c (.int .i64 0)), [0], none⟩] [] [19])
 (.cond (.t 20)
  (.seq (.region [⟨(some 21), .mov (.t 8), [], none⟩,
    ⟨(some 6), .mov (.t 21), [0, 0], none⟩] [] [2, 7, 8, 20, 21])
  .ret)
  .skip))
 (.seq (.seq (.region [⟨(some 22), .mov (.t 2), [], none⟩,
   ⟨(some 23), .len 1 (.t 22), [0], none⟩,
   ⟨(some 24), .mov (.c (.int .i64 0)), [], none⟩] [] [6, 8, 20])
 (.block 0 (.loop (.seq (.region [⟨(some 25), .bin .lss (.t 24) (.t 23), [], none⟩] [] [])
 (.seq (.cond (.t 25)
  .skip
  (.exit 0))
 (.seq (.block 1 (.seq (.region [⟨(some 26), .iaddr none 1 (.t 22) (.t 24), [], none⟩,
   ⟨(some 27), .load none (.t 26), [0], none⟩,
   ⟨(some 10), .mov (.t 27), [1, 0, 1], none⟩] [] [25, 26, 27])
 (.seq (.region [⟨(some 28), .mov (.t 10), [], none⟩,
   ⟨(some 29), .faddr 0 (.t 7), [], none⟩,
   ⟨(some 30), .load none (.t 29), [1], none⟩,
   ⟨(some 31), .call .pure (.f 47) [(.t 28), (.t 30)], [0, 2], none⟩,
   ⟨(some 11), .mov (.t 31), [3, 3, 0, 1, 2, 3], none⟩] [] [10, 28, 29, 30, 31])
 (.seq (.region [⟨(some 32), .mov (.t 11), [], none⟩,
   ⟨(some 33), .bin .neq (.t 32) (.c (.int .i64 0)), [0], none⟩] [] [32])
 (.cond (.t 33)
  (.seq (.region [⟨(some 34), .mov (.t 11), [], none⟩,
    ⟨(some 6), .mov (.t 34), [0, 0], none⟩] [] [2, 7, 22, 23, 24, 11, 33, 34])
  .ret)
  .skip)))))
 (.region [⟨(some 35), .bin .add (.t 24) (.c (.int .i64 1)), [], none⟩,
   ⟨(some 24), .mov (.t 35), [0], none⟩] [] [6, 11, 33, 35])))))))
 (.seq (.region [⟨(some 37), .load (some 2) (.t 7), [], none⟩,
   ⟨(some 38), .call .pure (.f 40) [(.t 37)], [0], none⟩,
   ⟨(some 36), .mov (.t 38), [1], none⟩,
   ⟨(some 39), .extract 0 (.t 36), [2], none⟩,
   ⟨(some 40), .extract 1 (.t 36), [2], none⟩,
   ⟨(some 12), .mov (.t 39), [3, 1, 0, 1, 2, 3], none⟩,
   ⟨(some 8), .mov (.t 40), [4, 5, 0, 1, 2, 3, 4, 5], none⟩] [] [7, 22, 23, 24, 37, 38, 36, 39, 40])
 (.seq (.seq (.region [⟨(some 41), .mov (.t 8), [], none⟩,
   ⟨(some 42), .bin .neq (.t 41) (.c (.int .i64 0)), [0], none⟩] [] [41])
 (.cond (.t 42)
  (.seq (.region [⟨(some 43), .mov (.t 8), [], none⟩,
    ⟨(some 6), .mov (.t 43), [0, 0], none⟩] [] [2, 12, 8, 42, 43])
  .ret)
  .skip))
 (.seq (.seq (.region [⟨(some 44), .mov (.t 2), [], none⟩,
   ⟨(some 45), .mov (.t 12), [], none⟩,
   ⟨(some 46), .call .pure (.f 51) [(.t 44), (.t 45), (.f 52)], [0, 1], none⟩,
   ⟨(some 47), .un .not (.t 46), [2], none⟩] [] [6, 2, 12, 8, 42, 44, 45, 46])
 (.cond (.t 47)
  (.seq (.region [⟨(some 6), .mov (.c (.int .i64 24)), [], none⟩] [] [47])
  .ret)
  .skip))
 (.seq (.region [⟨(some 6), .mov (.c (.int .i64 0)), [], none⟩] [] [47])
 .ret))))))))⟩
-- overseer/invariant.Combine
def s51 : SFn := ⟨32, [.tmp 6],
 (.seq (.region [⟨(some 6), .mov (.c (.bool false)), [], none⟩] [] [6])
 (.seq (.seq (.region [⟨(some 10), .mov (.t 0), [], none⟩,
   ⟨(some 11), .len 1 (.t 10), [0], none⟩,
   ⟨(some 12), .mov (.t 1), [], none⟩,
   ⟨(some 13), .len 1 (.t 12), [2], none⟩,
   ⟨(some 14), .bin .neq (.t 11) (.t 13), [1, 3], none⟩] [] [10, 11, 12, 13])
 (.cond (.t 14)
  (.seq (.region [⟨(some 6), .mov (.c (.bool false)), [], none⟩] [] [0, 1, 2, 14])
  .ret)
  .skip))
 (.seq (.seq (.region [⟨(some 15), .mov (.t 0), [], none⟩,
   ⟨(some 16), .len 1 (.t 15), [0], none⟩,
   ⟨(some 17), .mov (.c (.int .i64 0)), [], none⟩] [] [6, 0, 14])
 (.block 0 (.loop (.seq (.region [⟨(some 18), .bin .lss (.t 17) (.t 16), [], none⟩] [] [])
 (.seq (.cond (.t 18)
  .skip
  (.exit 0))
 (.seq (.block 1 (.seq (.region [⟨(some 19), .mov (.t 17), [], none⟩,
   ⟨(some 20), .iaddr none 1 (.t 15) (.t 17), [], none⟩,
   ⟨(some 21), .load none (.t 20), [1], none⟩,
   ⟨(some 7), .mov (.t 19), [0, 0, 1, 2], none⟩,
   ⟨(some 8), .mov (.t 21), [2, 3, 0, 1, 2, 3], none⟩] [] [18, 19, 20, 21])
 (.seq (.region [⟨(some 22), .mov (.t 1), [], none⟩,
   ⟨(some 23), .mov (.t 7), [], none⟩,
   ⟨(some 24), .iaddr none 1 (.t 22) (.t 23), [0, 1], none⟩,
   ⟨(some 25), .load none (.t 24), [2], none⟩,
   ⟨(some 9), .mov (.t 25), [3, 0, 1, 2, 3], none⟩] [] [7, 22, 23, 24, 25])
 (.seq (.region [⟨(some 26), .mov (.t 2), [], none⟩,
   ⟨(some 27), .mov (.t 8), [], none⟩,
   ⟨(some 28), .mov (.t 9), [], none⟩,
   ⟨(some 29), .call .pure (.t 26) [(.t 27), (.t 28)], [0, 1, 2], none⟩,
   ⟨(some 30), .un .not (.t 29), [3], none⟩] [] [8, 9, 26, 27, 28, 29])
 (.cond (.t 30)
  (.seq (.region [⟨(some 6), .mov (.c (.bool false)), [], none⟩] [] [1, 2, 15, 16, 17, 30])
  .ret)
  .skip)))))
 (.region [⟨(some 31), .bin .add (.t 17) (.c (.int .i64 1)), [], none⟩,
   ⟨(some 17), .mov (.t 31), [0], none⟩] [] [6, 30, 31])))))))
 (.seq (.region [⟨(some 6), .mov (.c (.bool true)), [], none⟩] [] [1, 2, 15, 16, 17])
 .ret))))⟩
-- overseer/invariant.Verify$1
def s52 : SFn := ⟨8, [.tmp 4],
 (.seq (.region [⟨(some 4), .mov (.c (.bool false)), [], none⟩] [] [4])
 (.seq (.region [⟨(some 5), .mov (.t 0), [], none⟩,
   ⟨(some 6), .mov (.t 1), [], none⟩,
   ⟨(some 7), .call .pure (.f 53) [(.t 5), (.t 6)], [0, 1], none⟩,
   ⟨(some 4), .mov (.t 7), [2, 2, 0, 1, 2], none⟩] [] [0, 1, 5, 6, 7])
 .ret))⟩
-- slices.Equal[[]int,int]
def s53 : SFn := ⟨26, [.tmp 4],
 (.seq (.region [⟨(some 4), .mov (.c (.bool false)), [], none⟩] [] [4])
 (.seq (.seq (.region [⟨(some 6), .mov (.t 0), [], none⟩,
   ⟨(some 7), .len 1 (.t 6), [0], none⟩,
   ⟨(some 8), .mov (.t 1), [], none⟩,
   ⟨(some 9), .len 1 (.t 8), [2], none⟩,
   ⟨(some 10), .bin .neq (.t 7) (.t 9), [1, 3], none⟩] [] [6, 7, 8, 9])
 (.cond (.t 10)
  (.seq (.region [⟨(some 4), .mov (.c (.bool false)), [], none⟩] [] [0, 1, 10])
  .ret)
  .skip))
 (.seq (.seq (.region [⟨(some 11), .mov (.t 0), [], none⟩,
   ⟨(some 12), .len 1 (.t 11), [0], none⟩,
   ⟨(some 13), .mov (.c (.int .i64 0)), [], none⟩] [] [4, 10, 11])
 (.block 0 (.loop (.seq (.region [⟨(some 14), .bin .lss (.t 13) (.t 12), [], none⟩] [] [])
 (.seq (.cond (.t 14)
  .skip
  (.exit 0))
 (.seq (.block 1 (.seq (.region [⟨(some 15), .mov (.t 13), [], none⟩,
   ⟨(some 5), .mov (.t 15), [0, 0], none⟩] [] [14, 15])
 (.seq (.region [⟨(some 16), .mov (.t 0), [], none⟩,
   ⟨(some 17), .mov (.t 5), [], none⟩,
   ⟨(some 18), .iaddr none 1 (.t 16) (.t 17), [0, 1], none⟩,
   ⟨(some 19), .load none (.t 18), [2], none⟩,
   ⟨(some 20), .mov (.t 1), [], none⟩,
   ⟨(some 21), .mov (.t 5), [], none⟩,
   ⟨(some 22), .iaddr none 1 (.t 20) (.t 21), [4, 5], none⟩,
   ⟨(some 23), .load none (.t 22), [6], none⟩,
   ⟨(some 24), .bin .neq (.t 19) (.t 23), [3, 7], none⟩] [] [5, 16, 17, 18, 19, 20, 21, 22, 23])
 (.cond (.t 24)
  (.seq (.region [⟨(some 4), .mov (.c (.bool false)), [], none⟩] [] [0, 1, 12, 13, 24])
  .ret)
  .skip))))
 (.region [⟨(some 25), .bin .add (.t 13) (.c (.int .i64 1)), [], none⟩,
   ⟨(some 13), .mov (.t 25), [0], none⟩] [] [4, 24, 25])))))))
 (.seq (.region [⟨(some 4), .mov (.c (.bool true)), [], none⟩] [] [0, 1, 12, 13])
 .ret))))⟩
-- slices.ContainsFunc[[][]int,[]int]
theorem ok33 : okFn Try.prog 33 s33 = true := by kernel_rfl
theorem ok51 : okFn Try.prog 51 s51 = true := by kernel_rfl
theorem ok52 : okFn Try.prog 52 s52 = true := by kernel_rfl
theorem ok53 : okFn Try.prog 53 s53 = true := by kernel_rfl
end Go.AM.SQ
namespace Go.AM.SN
open Go.Proofs
set_option maxRecDepth 100000
set_option linter.unusedSimpArgs false
set_option linter.unusedVariables false
-- NA: noRef_net, noRef_sli, noRef_lsts, noRef_arcs, noRef_tns
-- NR: noRefs_ints, noRefs_lsts, noRefs_pad, noRefs_tnC, noRefs_arcC, noRefs_rowF
theorem equal53 (a b : List Int) (hl : a.length ≤ 1099511627776) : PSpec Try.prog 53 [sli a, sli b] (.bool (decide (a = b))) := by
  refine PSpec.of_flat 64 SQ.ok53 rfl (by simp [noRefs, noRef, noRefs_ints]) rfl ?_
  by_cases hab : a.length = b.length
  · simp (config := { maxSteps := 1000000 }) (disch := first | omega | (simp only [List.length_map, List.length_append, List.length_cons, List.length_nil, ints_len] <;> omega)) only [SQ.s53, hab, wordsN, Int.reduceGT, wordsR, ne_eq, words, Nat.reduceAdd, Nat.reduceEqDiff, Nat.reduceBEq, ↓reduceIte, reduceCtorEq, SX.exit.injEq, if_true, if_false, Int.reduceAdd, Int.reduceSub, Int.reduceMul, Int.reduceLT, Int.reduceLE, Int.reduceEq, Int.reduceNe, Int.reduceNeg, Int.reduceToNat, Nat.reduceMul, Nat.reduceLT, Nat.reduceSub, Nat.reduceLeDiff]
    refine wS_loopR 100 (fun i : Nat => [(0, sli a), (1, sli b), (12, .int .i64 a.length), (13, .int .i64 i)]) (fun _ => []) (fun i => i ≤ a.length ∧ ∀ j, j < i → a[j]? = b[j]?) (fun i => a.length - i) 0 ?_ ⟨Nat.zero_le _, fun j hj => absurd hj (Nat.not_lt_zero _)⟩ ?_
    · rw [hab]; exact ⟨[], rfl, (by repeat (first | exact RO.zero | exact RO.e | refine RO.set rfl ?_)), (by repeat' (first | exact RB.nil | (refine RnL.same ?_; first | rfl | (simp only [noRef, noRefs, noRefs_append, Bool.and_self, Bool.and_true, Bool.true_and, noRefs_ints, noRefs_lsts, noRefs_pad, noRefs_tnC, noRefs_arcC, noRefs_rowF]; done)) | exact RnM.keyM rfl | exact RnL.nil | refine RnL.cons ?_ ?_ | (refine Rn.same ?_; first | rfl | (simp only [noRef, noRefs, noRefs_append, Bool.and_self, Bool.and_true, Bool.true_and, noRefs_ints, noRefs_lsts, noRefs_pad, noRefs_tnC, noRefs_arcC, noRefs_rowF]; done)) | exact Rn.sl (Nat.le_of_ble_eq_true rfl) rfl | exact Rn.ptr (Nat.le_of_ble_eq_true rfl) rfl | exact Rn.map (Nat.le_of_ble_eq_true rfl) rfl | exact Rn.slnil (Nat.le_of_ble_eq_true rfl) rfl | exact Rn.slB (Nat.le_of_ble_eq_true rfl) | exact Rn.ptrB (Nat.le_of_ble_eq_true rfl) | exact Rn.mapB (Nat.le_of_ble_eq_true rfl) | refine RB.newnil rfl rfl ?_ | refine RB.cells rfl rfl rfl ?_ ?_ | refine RB.map rfl rfl rfl ?_ ?_ | refine RB.cellsB rfl rfl ?_ ?_ | refine RB.mapB rfl rfl ?_ ?_)), (by repeat (first | exact RT.nil | (refine RT.cons ?_ ?_; · (first | exact Rn.any | exact Rn.sl (Nat.le_of_ble_eq_true rfl) rfl | exact Rn.ptr (Nat.le_of_ble_eq_true rfl) rfl | exact Rn.map (Nat.le_of_ble_eq_true rfl) rfl | exact Rn.slnil (Nat.le_of_ble_eq_true rfl) rfl | exact Rn.slB (Nat.le_of_ble_eq_true rfl) | exact Rn.ptrB (Nat.le_of_ble_eq_true rfl) | exact Rn.mapB (Nat.le_of_ble_eq_true rfl) | (refine Rn.slot ?_ ?_; (first | rfl | (rw [Int.natCast_add]; rfl)); (first | rfl | (simp only [noRef, noRefs, noRefs_append, Bool.and_self, Bool.and_true, Bool.true_and, noRefs_ints, noRefs_lsts, noRefs_pad, noRefs_tnC, noRefs_arcC, noRefs_rowF]; done))) | (refine Rn.fn ?_ ?_ <;> (repeat' (first | exact RnL.nil | refine RnL.cons ?_ ?_ | exact Rn.same rfl | exact Rn.ptrB (Nat.le_of_ble_eq_true rfl) | exact Rn.ptr (Nat.le_of_ble_eq_true rfl) rfl | exact Rn.slB (Nat.le_of_ble_eq_true rfl) | exact Rn.sl (Nat.le_of_ble_eq_true rfl) rfl)))))))⟩
    rintro i ⟨hi, hb⟩
    by_cases hlt : i < a.length
    · obtain ⟨x, hx⟩ := get_ex hlt
      obtain ⟨y, hy⟩ := get_ex (l := b) (i := i) (by omega)
      have hlt2 : i < b.length := by omega
      by_cases h0 : x = y
      · simp (config := { maxSteps := 1000000 }) (disch := first | omega | (simp only [List.length_map, List.length_append, List.length_cons, List.length_nil, ints_len] <;> omega)) only [hlt, hlt2, head_ints hx, head_ints hy, h0, wordsN, Int.reduceGT, wordsR, ne_eq, words, Nat.reduceAdd, Nat.reduceEqDiff, Nat.reduceBEq, ↓reduceIte, reduceCtorEq, SX.exit.injEq, if_true, if_false, Int.reduceAdd, Int.reduceSub, Int.reduceMul, Int.reduceLT, Int.reduceLE, Int.reduceEq, Int.reduceNe, Int.reduceNeg, Int.reduceToNat, Nat.reduceMul, Nat.reduceLT, Nat.reduceSub, Nat.reduceLeDiff]
        refine ⟨i + 1, by omega, ⟨by omega, fun j hj => ?_⟩, ⟨[], rfl, (by repeat (first | exact RO.zero | exact RO.e | refine RO.set rfl ?_)), (by repeat' (first | exact RB.nil | (refine RnL.same ?_; first | rfl | (simp only [noRef, noRefs, noRefs_append, Bool.and_self, Bool.and_true, Bool.true_and, noRefs_ints, noRefs_lsts, noRefs_pad, noRefs_tnC, noRefs_arcC, noRefs_rowF]; done)) | exact RnM.keyM rfl | exact RnL.nil | refine RnL.cons ?_ ?_ | (refine Rn.same ?_; first | rfl | (simp only [noRef, noRefs, noRefs_append, Bool.and_self, Bool.and_true, Bool.true_and, noRefs_ints, noRefs_lsts, noRefs_pad, noRefs_tnC, noRefs_arcC, noRefs_rowF]; done)) | exact Rn.sl (Nat.le_of_ble_eq_true rfl) rfl | exact Rn.ptr (Nat.le_of_ble_eq_true rfl) rfl | exact Rn.map (Nat.le_of_ble_eq_true rfl) rfl | exact Rn.slnil (Nat.le_of_ble_eq_true rfl) rfl | exact Rn.slB (Nat.le_of_ble_eq_true rfl) | exact Rn.ptrB (Nat.le_of_ble_eq_true rfl) | exact Rn.mapB (Nat.le_of_ble_eq_true rfl) | refine RB.newnil rfl rfl ?_ | refine RB.cells rfl rfl rfl ?_ ?_ | refine RB.map rfl rfl rfl ?_ ?_ | refine RB.cellsB rfl rfl ?_ ?_ | refine RB.mapB rfl rfl ?_ ?_)), (by repeat (first | exact RT.nil | (refine RT.cons ?_ ?_; · (first | exact Rn.any | exact Rn.sl (Nat.le_of_ble_eq_true rfl) rfl | exact Rn.ptr (Nat.le_of_ble_eq_true rfl) rfl | exact Rn.map (Nat.le_of_ble_eq_true rfl) rfl | exact Rn.slnil (Nat.le_of_ble_eq_true rfl) rfl | exact Rn.slB (Nat.le_of_ble_eq_true rfl) | exact Rn.ptrB (Nat.le_of_ble_eq_true rfl) | exact Rn.mapB (Nat.le_of_ble_eq_true rfl) | (refine Rn.slot ?_ ?_; (first | rfl | (rw [Int.natCast_add]; rfl)); (first | rfl | (simp only [noRef, noRefs, noRefs_append, Bool.and_self, Bool.and_true, Bool.true_and, noRefs_ints, noRefs_lsts, noRefs_pad, noRefs_tnC, noRefs_arcC, noRefs_rowF]; done))) | (refine Rn.fn ?_ ?_ <;> (repeat' (first | exact RnL.nil | refine RnL.cons ?_ ?_ | exact Rn.same rfl | exact Rn.ptrB (Nat.le_of_ble_eq_true rfl) | exact Rn.ptr (Nat.le_of_ble_eq_true rfl) rfl | exact Rn.slB (Nat.le_of_ble_eq_true rfl) | exact Rn.sl (Nat.le_of_ble_eq_true rfl) rfl)))))))⟩⟩
        by_cases e : j = i
        · subst e; rw [hx, hy, h0]
        · exact hb j (by omega)
      · simp (config := { maxSteps := 1000000 }) (disch := first | omega | (simp only [List.length_map, List.length_append, List.length_cons, List.length_nil, ints_len] <;> omega)) only [hlt, hlt2, head_ints hx, head_ints hy, h0, wordsN, Int.reduceGT, wordsR, ne_eq, words, Nat.reduceAdd, Nat.reduceEqDiff, Nat.reduceBEq, ↓reduceIte, reduceCtorEq, SX.exit.injEq, if_true, if_false, Int.reduceAdd, Int.reduceSub, Int.reduceMul, Int.reduceLT, Int.reduceLE, Int.reduceEq, Int.reduceNe, Int.reduceNeg, Int.reduceToNat, Nat.reduceMul, Nat.reduceLT, Nat.reduceSub, Nat.reduceLeDiff]
        refine ⟨.inr trivial, _, rfl, ?_⟩
        have : a ≠ b := fun e => by subst e; rw [hx] at hy; cases hy; exact h0 rfl
        simp [resOf, lk_cons, this]
    · have : a = b := List.ext_getElem? fun j => by
        by_cases hj : j < i
        · exact hb j hj
        · rw [List.getElem?_eq_none (by omega), List.getElem?_eq_none (by omega)]
      simp (config := { maxSteps := 1000000 }) (disch := first | omega | (simp only [List.length_map, List.length_append, List.length_cons, List.length_nil, ints_len] <;> omega)) only [hlt, wordsN, Int.reduceGT, wordsR, ne_eq, words, Nat.reduceAdd, Nat.reduceEqDiff, Nat.reduceBEq, ↓reduceIte, reduceCtorEq, SX.exit.injEq, if_true, if_false, Int.reduceAdd, Int.reduceSub, Int.reduceMul, Int.reduceLT, Int.reduceLE, Int.reduceEq, Int.reduceNe, Int.reduceNeg, Int.reduceToNat, Nat.reduceMul, Nat.reduceLT, Nat.reduceSub, Nat.reduceLeDiff]
      exact ⟨.inr trivial, _, rfl, by simp [resOf, lk_cons, this]⟩
  · simp (config := { maxSteps := 1000000 }) (disch := first | omega | (simp only [List.length_map, List.length_append, List.length_cons, List.length_nil, ints_len] <;> omega)) only [SQ.s53, hab, wordsN, Int.reduceGT, wordsR, ne_eq, words, Nat.reduceAdd, Nat.reduceEqDiff, Nat.reduceBEq, ↓reduceIte, reduceCtorEq, SX.exit.injEq, if_true, if_false, Int.reduceAdd, Int.reduceSub, Int.reduceMul, Int.reduceLT, Int.reduceLE, Int.reduceEq, Int.reduceNe, Int.reduceNeg, Int.reduceToNat, Nat.reduceMul, Nat.reduceLT, Nat.reduceSub, Nat.reduceLeDiff]
    have : a ≠ b := fun e => hab (by rw [e])
    exact ⟨.inr trivial, _, rfl, by simp [resOf, lk_cons, this]⟩
theorem equal52 (a b : List Int) (hl : a.length ≤ 1099511627776) : PSpec Try.prog 52 [sli a, sli b] (.bool (decide (a = b))) := by
  refine PSpec.of_flat 64 SQ.ok52 rfl (by simp [noRefs, noRef, noRefs_ints]) rfl ?_
  simp (config := { maxSteps := 1000000 }) (disch := first | omega | (simp only [List.length_map, List.length_append, List.length_cons, List.length_nil, ints_len] <;> omega)) only [SQ.s52, wordsN, Int.reduceGT, wordsR, ne_eq, words, Nat.reduceAdd, Nat.reduceEqDiff, Nat.reduceBEq, ↓reduceIte, reduceCtorEq, SX.exit.injEq, if_true, if_false, Int.reduceAdd, Int.reduceSub, Int.reduceMul, Int.reduceLT, Int.reduceLE, Int.reduceEq, Int.reduceNe, Int.reduceNeg, Int.reduceToNat, Nat.reduceMul, Nat.reduceLT, Nat.reduceSub, Nat.reduceLeDiff]
  refine cp (equal53 a b hl) ?_
  simp (config := { maxSteps := 1000000 }) (disch := first | omega | (simp only [List.length_map, List.length_append, List.length_cons, List.length_nil, ints_len] <;> omega)) only [wordsN, Int.reduceGT, wordsR, ne_eq, words, Nat.reduceAdd, Nat.reduceEqDiff, Nat.reduceBEq, ↓reduceIte, reduceCtorEq, SX.exit.injEq, if_true, if_false, Int.reduceAdd, Int.reduceSub, Int.reduceMul, Int.reduceLT, Int.reduceLE, Int.reduceEq, Int.reduceNe, Int.reduceNeg, Int.reduceToNat, Nat.reduceMul, Nat.reduceLT, Nat.reduceSub, Nat.reduceLeDiff]
  exact ⟨.inr trivial, _, rfl, rfl⟩
theorem equal51 (a b : List (List Int)) (hl : a.length ≤ 1099511627776) (hla : ∀ x ∈ a, x.length ≤ 1099511627776) : PSpec Try.prog 51 [lsts a, lsts b, .fn 52 [] []] (.bool (decide (a = b))) := by
  refine PSpec.of_flat 64 SQ.ok51 rfl (by simp [noRefs, noRef, noRefs_lsts]) rfl ?_
  by_cases hab : a.length = b.length
  · simp (config := { maxSteps := 1000000 }) (disch := first | omega | (simp only [List.length_map, List.length_append, List.length_cons, List.length_nil, ints_len] <;> omega)) only [SQ.s51, hab, wordsN, Int.reduceGT, wordsR, ne_eq, words, Nat.reduceAdd, Nat.reduceEqDiff, Nat.reduceBEq, ↓reduceIte, reduceCtorEq, SX.exit.injEq, if_true, if_false, Int.reduceAdd, Int.reduceSub, Int.reduceMul, Int.reduceLT, Int.reduceLE, Int.reduceEq, Int.reduceNe, Int.reduceNeg, Int.reduceToNat, Nat.reduceMul, Nat.reduceLT, Nat.reduceSub, Nat.reduceLeDiff]
    refine wS_loopR 100 (fun i : Nat => [(1, lsts b), (2, .fn 52 [] []), (15, lsts a), (16, .int .i64 a.length), (17, .int .i64 i)]) (fun _ => []) (fun i => i ≤ a.length ∧ ∀ j, j < i → a[j]? = b[j]?) (fun i => a.length - i) 0 ?_ ⟨Nat.zero_le _, fun j hj => absurd hj (Nat.not_lt_zero _)⟩ ?_
    · rw [hab]; exact ⟨[], rfl, (by repeat (first | exact RO.zero | exact RO.e | refine RO.set rfl ?_)), (by repeat' (first | exact RB.nil | (refine RnL.same ?_; first | rfl | (simp only [noRef, noRefs, noRefs_append, Bool.and_self, Bool.and_true, Bool.true_and, noRefs_ints, noRefs_lsts, noRefs_pad, noRefs_tnC, noRefs_arcC, noRefs_rowF]; done)) | exact RnM.keyM rfl | exact RnL.nil | refine RnL.cons ?_ ?_ | (refine Rn.same ?_; first | rfl | (simp only [noRef, noRefs, noRefs_append, Bool.and_self, Bool.and_true, Bool.true_and, noRefs_ints, noRefs_lsts, noRefs_pad, noRefs_tnC, noRefs_arcC, noRefs_rowF]; done)) | exact Rn.sl (Nat.le_of_ble_eq_true rfl) rfl | exact Rn.ptr (Nat.le_of_ble_eq_true rfl) rfl | exact Rn.map (Nat.le_of_ble_eq_true rfl) rfl | exact Rn.slnil (Nat.le_of_ble_eq_true rfl) rfl | exact Rn.slB (Nat.le_of_ble_eq_true rfl) | exact Rn.ptrB (Nat.le_of_ble_eq_true rfl) | exact Rn.mapB (Nat.le_of_ble_eq_true rfl) | refine RB.newnil rfl rfl ?_ | refine RB.cells rfl rfl rfl ?_ ?_ | refine RB.map rfl rfl rfl ?_ ?_ | refine RB.cellsB rfl rfl ?_ ?_ | refine RB.mapB rfl rfl ?_ ?_)), (by repeat (first | exact RT.nil | (refine RT.cons ?_ ?_; · (first | exact Rn.any | exact Rn.sl (Nat.le_of_ble_eq_true rfl) rfl | exact Rn.ptr (Nat.le_of_ble_eq_true rfl) rfl | exact Rn.map (Nat.le_of_ble_eq_true rfl) rfl | exact Rn.slnil (Nat.le_of_ble_eq_true rfl) rfl | exact Rn.slB (Nat.le_of_ble_eq_true rfl) | exact Rn.ptrB (Nat.le_of_ble_eq_true rfl) | exact Rn.mapB (Nat.le_of_ble_eq_true rfl) | (refine Rn.slot ?_ ?_; (first | rfl | (rw [Int.natCast_add]; rfl)); (first | rfl | (simp only [noRef, noRefs, noRefs_append, Bool.and_self, Bool.and_true, Bool.true_and, noRefs_ints, noRefs_lsts, noRefs_pad, noRefs_tnC, noRefs_arcC, noRefs_rowF]; done))) | (refine Rn.fn ?_ ?_ <;> (repeat' (first | exact RnL.nil | refine RnL.cons ?_ ?_ | exact Rn.same rfl | exact Rn.ptrB (Nat.le_of_ble_eq_true rfl) | exact Rn.ptr (Nat.le_of_ble_eq_true rfl) rfl | exact Rn.slB (Nat.le_of_ble_eq_true rfl) | exact Rn.sl (Nat.le_of_ble_eq_true rfl) rfl)))))))⟩
    rintro i ⟨hi, hb⟩
    by_cases hlt : i < a.length
    · obtain ⟨x, hx⟩ := get_ex hlt
      obtain ⟨y, hy⟩ := get_ex (l := b) (i := i) (by omega)
      have hlt2 : i < b.length := by omega
      simp (config := { maxSteps := 1000000 }) (disch := first | omega | (simp only [List.length_map, List.length_append, List.length_cons, List.length_nil, ints_len] <;> omega)) only [hlt, hlt2, head_lsts hx, head_lsts hy, wordsN, Int.reduceGT, wordsR, ne_eq, words, Nat.reduceAdd, Nat.reduceEqDiff, Nat.reduceBEq, ↓reduceIte, reduceCtorEq, SX.exit.injEq, if_true, if_false, Int.reduceAdd, Int.reduceSub, Int.reduceMul, Int.reduceLT, Int.reduceLE, Int.reduceEq, Int.reduceNe, Int.reduceNeg, Int.reduceToNat, Nat.reduceMul, Nat.reduceLT, Nat.reduceSub, Nat.reduceLeDiff]
      refine cp (equal52 x y (hla x (List.mem_of_getElem? hx))) ?_
      by_cases h0 : x = y
      · simp (config := { maxSteps := 1000000 }) (disch := first | omega | (simp only [List.length_map, List.length_append, List.length_cons, List.length_nil, ints_len] <;> omega)) only [h0, wordsN, Int.reduceGT, wordsR, ne_eq, words, Nat.reduceAdd, Nat.reduceEqDiff, Nat.reduceBEq, ↓reduceIte, reduceCtorEq, SX.exit.injEq, if_true, if_false, Int.reduceAdd, Int.reduceSub, Int.reduceMul, Int.reduceLT, Int.reduceLE, Int.reduceEq, Int.reduceNe, Int.reduceNeg, Int.reduceToNat, Nat.reduceMul, Nat.reduceLT, Nat.reduceSub, Nat.reduceLeDiff]
        refine ⟨i + 1, by omega, ⟨by omega, fun j hj => ?_⟩, ⟨[], rfl, (by repeat (first | exact RO.zero | exact RO.e | refine RO.set rfl ?_)), (by repeat' (first | exact RB.nil | (refine RnL.same ?_; first | rfl | (simp only [noRef, noRefs, noRefs_append, Bool.and_self, Bool.and_true, Bool.true_and, noRefs_ints, noRefs_lsts, noRefs_pad, noRefs_tnC, noRefs_arcC, noRefs_rowF]; done)) | exact RnM.keyM rfl | exact RnL.nil | refine RnL.cons ?_ ?_ | (refine Rn.same ?_; first | rfl | (simp only [noRef, noRefs, noRefs_append, Bool.and_self, Bool.and_true, Bool.true_and, noRefs_ints, noRefs_lsts, noRefs_pad, noRefs_tnC, noRefs_arcC, noRefs_rowF]; done)) | exact Rn.sl (Nat.le_of_ble_eq_true rfl) rfl | exact Rn.ptr (Nat.le_of_ble_eq_true rfl) rfl | exact Rn.map (Nat.le_of_ble_eq_true rfl) rfl | exact Rn.slnil (Nat.le_of_ble_eq_true rfl) rfl | exact Rn.slB (Nat.le_of_ble_eq_true rfl) | exact Rn.ptrB (Nat.le_of_ble_eq_true rfl) | exact Rn.mapB (Nat.le_of_ble_eq_true rfl) | refine RB.newnil rfl rfl ?_ | refine RB.cells rfl rfl rfl ?_ ?_ | refine RB.map rfl rfl rfl ?_ ?_ | refine RB.cellsB rfl rfl ?_ ?_ | refine RB.mapB rfl rfl ?_ ?_)), (by repeat (first | exact RT.nil | (refine RT.cons ?_ ?_; · (first | exact Rn.any | exact Rn.sl (Nat.le_of_ble_eq_true rfl) rfl | exact Rn.ptr (Nat.le_of_ble_eq_true rfl) rfl | exact Rn.map (Nat.le_of_ble_eq_true rfl) rfl | exact Rn.slnil (Nat.le_of_ble_eq_true rfl) rfl | exact Rn.slB (Nat.le_of_ble_eq_true rfl) | exact Rn.ptrB (Nat.le_of_ble_eq_true rfl) | exact Rn.mapB (Nat.le_of_ble_eq_true rfl) | (refine Rn.slot ?_ ?_; (first | rfl | (rw [Int.natCast_add]; rfl)); (first | rfl | (simp only [noRef, noRefs, noRefs_append, Bool.and_self, Bool.and_true, Bool.true_and, noRefs_ints, noRefs_lsts, noRefs_pad, noRefs_tnC, noRefs_arcC, noRefs_rowF]; done))) | (refine Rn.fn ?_ ?_ <;> (repeat' (first | exact RnL.nil | refine RnL.cons ?_ ?_ | exact Rn.same rfl | exact Rn.ptrB (Nat.le_of_ble_eq_true rfl) | exact Rn.ptr (Nat.le_of_ble_eq_true rfl) rfl | exact Rn.slB (Nat.le_of_ble_eq_true rfl) | exact Rn.sl (Nat.le_of_ble_eq_true rfl) rfl)))))))⟩⟩
        by_cases e : j = i
        · subst e; rw [hx, hy, h0]
        · exact hb j (by omega)
      · simp (config := { maxSteps := 1000000 }) (disch := first | omega | (simp only [List.length_map, List.length_append, List.length_cons, List.length_nil, ints_len] <;> omega)) only [h0, wordsN, Int.reduceGT, wordsR, ne_eq, words, Nat.reduceAdd, Nat.reduceEqDiff, Nat.reduceBEq, ↓reduceIte, reduceCtorEq, SX.exit.injEq, if_true, if_false, Int.reduceAdd, Int.reduceSub, Int.reduceMul, Int.reduceLT, Int.reduceLE, Int.reduceEq, Int.reduceNe, Int.reduceNeg, Int.reduceToNat, Nat.reduceMul, Nat.reduceLT, Nat.reduceSub, Nat.reduceLeDiff]
        refine ⟨.inr trivial, _, rfl, ?_⟩
        have : a ≠ b := fun e => by subst e; rw [hx] at hy; cases hy; exact h0 rfl
        simp [resOf, lk_cons, this]
    · have : a = b := List.ext_getElem? fun j => by
        by_cases hj : j < i
        · exact hb j hj
        · rw [List.getElem?_eq_none (by omega), List.getElem?_eq_none (by omega)]
      simp (config := { maxSteps := 1000000 }) (disch := first | omega | (simp only [List.length_map, List.length_append, List.length_cons, List.length_nil, ints_len] <;> omega)) only [hlt, wordsN, Int.reduceGT, wordsR, ne_eq, words, Nat.reduceAdd, Nat.reduceEqDiff, Nat.reduceBEq, ↓reduceIte, reduceCtorEq, SX.exit.injEq, if_true, if_false, Int.reduceAdd, Int.reduceSub, Int.reduceMul, Int.reduceLT, Int.reduceLE, Int.reduceEq, Int.reduceNe, Int.reduceNeg, Int.reduceToNat, Nat.reduceMul, Nat.reduceLT, Nat.reduceSub, Nat.reduceLeDiff]
      exact ⟨.inr trivial, _, rfl, by simp [resOf, lk_cons, this]⟩
  · simp (config := { maxSteps := 1000000 }) (disch := first | omega | (simp only [List.length_map, List.length_append, List.length_cons, List.length_nil, ints_len] <;> omega)) only [SQ.s51, hab, wordsN, Int.reduceGT, wordsR, ne_eq, words, Nat.reduceAdd, Nat.reduceEqDiff, Nat.reduceBEq, ↓reduceIte, reduceCtorEq, SX.exit.injEq, if_true, if_false, Int.reduceAdd, Int.reduceSub, Int.reduceMul, Int.reduceLT, Int.reduceLE, Int.reduceEq, Int.reduceNe, Int.reduceNeg, Int.reduceToNat, Nat.reduceMul, Nat.reduceLT, Nat.reduceSub, Nat.reduceLeDiff]
    have : a ≠ b := fun e => hab (by rw [e])
    exact ⟨.inr trivial, _, rfl, by simp [resOf, lk_cons, this]⟩
/-- The first error of lists of weights. -/
def fstErr (K : Nat) : List (List Int) → Int
  | [] => 0
  | w :: l => if wErr w K = 0 then fstErr K l else wErr w K
theorem fstErr_at {K : Nat} : ∀ {l : List (List Int)} {i : Nat} {w : List Int}, l[i]? = some w → (∀ (j : Nat) y, j < i → l[j]? = some y → wErr y K = 0) → wErr w K ≠ 0 → fstErr K l = wErr w K
  | [], i, w, h, _, _ => by simp at h
  | a :: l, 0, w, h, _, hw => by simp at h; subst h; simp [fstErr, hw]
  | a :: l, i + 1, w, h, hb, hw => by
    have h0 := hb 0 a (by omega) rfl
    rw [fstErr, if_pos h0]
    exact fstErr_at (by simpa using h) (fun j y hj hy => hb (j + 1) y (by omega) (by simpa using hy)) hw
theorem fstErr_ok {K : Nat} : ∀ {l : List (List Int)}, (∀ (j : Nat) y, l[j]? = some y → wErr y K = 0) → fstErr K l = 0
  | [], _ => rfl
  | a :: l, hb => by
    rw [fstErr, if_pos (hb 0 a rfl)]
    exact fstErr_ok fun j y hy => hb (j + 1) y (by simpa using hy)
/-- What Verify gives. -/
def verR (K : Nat) (M l : List (List Int)) : Int := if fstErr K l = 0 then (if l = M then 0 else 24) else fstErr K l
set_option maxHeartbeats 8000000 in
theorem VerifyT (x : Nt) (kind : Int) (K : Nat) (R : List (List Int)) (hT : PSpec Try.prog 39 [netV x, .int .i64 kind] (.tup [tabV K R, .int .i64 0]))
    (hK : K ≤ 5) (hR : R.length ≤ 100) (hRk : ∀ r ∈ R, r.length = K) (hRb : ∀ r ∈ R, ∀ x ∈ r, -8 ≤ x ∧ x ≤ 8) (hW : ∀ f ∈ minF R K K, ∀ i, i < K → f.2 i ≤ 65536)
    (l : List (List Int)) (hl : l.length ≤ 1000000) (hll : ∀ w ∈ l, w.length ≤ 1000000) :
    PSpec Try.prog 33 [netV x, .int .i64 kind, lsts l] (.int .i64 (verR K (minL R K) l)) := by
  refine PSpec.of_rn 64 SQ.ok33 rfl (by rw [noRefs, noRef_net]; simp only [noRefs, noRef, noRefs_lsts]; rfl) rfl ?_
  have hli := listedP K R hK hR hRk hRb hW
  have hK0 : K ≤ 1099511627776 := by omega
  simp (config := { maxSteps := 1000000 }) (disch := first | omega | (simp only [List.length_map, List.length_append, List.length_cons, List.length_nil, ints_len] <;> omega)) only [SQ.s33, wordsN, Int.reduceGT, wordsR, ne_eq, words, Nat.reduceAdd, Nat.reduceEqDiff, Nat.reduceBEq, ↓reduceIte, reduceCtorEq, SX.exit.injEq, if_true, if_false, Int.reduceAdd, Int.reduceSub, Int.reduceMul, Int.reduceLT, Int.reduceLE, Int.reduceEq, Int.reduceNe, Int.reduceNeg, Int.reduceToNat, Nat.reduceMul, Nat.reduceLT, Nat.reduceSub, Nat.reduceLeDiff]
  refine cp hT ?_
  simp (config := { maxSteps := 1000000 }) (disch := first | omega | (simp only [List.length_map, List.length_append, List.length_cons, List.length_nil, ints_len] <;> omega)) only [wordsN, Int.reduceGT, wordsR, ne_eq, words, Nat.reduceAdd, Nat.reduceEqDiff, Nat.reduceBEq, ↓reduceIte, reduceCtorEq, SX.exit.injEq, if_true, if_false, Int.reduceAdd, Int.reduceSub, Int.reduceMul, Int.reduceLT, Int.reduceLE, Int.reduceEq, Int.reduceNe, Int.reduceNeg, Int.reduceToNat, Nat.reduceMul, Nat.reduceLT, Nat.reduceSub, Nat.reduceLeDiff]
  refine wS_loopX 100 (fun i : Nat => [(2, lsts l), (7, .ptr 51 0 0), (22, lsts l), (23, .int .i64 l.length), (24, .int .i64 i)]) (fun _ => [(51, .cells 0 [.int .i64 K, .fsl (R.flatMap pad) R.length 10])])
    (fun i => i ≤ l.length ∧ ∀ (j : Nat) y, j < i → l[j]? = some y → wErr y K = 0) (fun i => l.length - i) 0 0 200 (fun _ : Unit => [(2, lsts l), (7, .ptr 51 0 0)]) (fun _ => [(51, .cells 0 [.int .i64 K, .fsl (R.flatMap pad) R.length 10])]) (fun _ => fstErr K l = 0)
    ?_ ⟨Nat.zero_le _, fun j y hj => absurd hj (Nat.not_lt_zero _)⟩ ?_ ?_
  · exact ⟨[(51, .blk 72 0)], rfl, (by repeat (first | exact RO.zero | exact RO.e | refine RO.set rfl ?_)), (by repeat' (first | exact RB.nil | (refine RnL.same ?_; first | rfl | (simp only [noRef, noRefs, noRefs_append, Bool.and_self, Bool.and_true, Bool.true_and, noRefs_ints, noRefs_lsts, noRefs_pad, noRefs_tnC, noRefs_arcC, noRefs_rowF]; done)) | exact RnM.keyM rfl | exact RnL.nil | refine RnL.cons ?_ ?_ | (refine Rn.same ?_; first | rfl | (simp only [noRef, noRefs, noRefs_append, Bool.and_self, Bool.and_true, Bool.true_and, noRefs_ints, noRefs_lsts, noRefs_pad, noRefs_tnC, noRefs_arcC, noRefs_rowF]; done)) | exact Rn.sl (Nat.le_of_ble_eq_true rfl) rfl | exact Rn.ptr (Nat.le_of_ble_eq_true rfl) rfl | exact Rn.map (Nat.le_of_ble_eq_true rfl) rfl | exact Rn.slnil (Nat.le_of_ble_eq_true rfl) rfl | exact Rn.slB (Nat.le_of_ble_eq_true rfl) | exact Rn.ptrB (Nat.le_of_ble_eq_true rfl) | exact Rn.mapB (Nat.le_of_ble_eq_true rfl) | refine RB.newnil rfl rfl ?_ | refine RB.cells rfl rfl rfl ?_ ?_ | refine RB.map rfl rfl rfl ?_ ?_ | refine RB.cellsB rfl rfl ?_ ?_ | refine RB.mapB rfl rfl ?_ ?_)), (by repeat (first | exact RT.nil | (refine RT.cons ?_ ?_; · (first | exact Rn.any | exact Rn.sl (Nat.le_of_ble_eq_true rfl) rfl | exact Rn.ptr (Nat.le_of_ble_eq_true rfl) rfl | exact Rn.map (Nat.le_of_ble_eq_true rfl) rfl | exact Rn.slnil (Nat.le_of_ble_eq_true rfl) rfl | exact Rn.slB (Nat.le_of_ble_eq_true rfl) | exact Rn.ptrB (Nat.le_of_ble_eq_true rfl) | exact Rn.mapB (Nat.le_of_ble_eq_true rfl) | (refine Rn.slot ?_ ?_; (first | rfl | (rw [Int.natCast_add]; rfl)); (first | rfl | (simp only [noRef, noRefs, noRefs_append, Bool.and_self, Bool.and_true, Bool.true_and, noRefs_ints, noRefs_lsts, noRefs_pad, noRefs_tnC, noRefs_arcC, noRefs_rowF]; done))) | (refine Rn.fn ?_ ?_ <;> (repeat' (first | exact RnL.nil | refine RnL.cons ?_ ?_ | exact Rn.same rfl | exact Rn.ptrB (Nat.le_of_ble_eq_true rfl) | exact Rn.ptr (Nat.le_of_ble_eq_true rfl) rfl | exact Rn.slB (Nat.le_of_ble_eq_true rfl) | exact Rn.sl (Nat.le_of_ble_eq_true rfl) rfl)))))))⟩
  · rintro i ⟨hi, hb⟩
    by_cases hlt : i < l.length
    · obtain ⟨w, hw⟩ := get_ex hlt
      have hwl := hll w (List.mem_of_getElem? hw)
      simp (config := { maxSteps := 1000000 }) (disch := first | omega | (simp only [List.length_map, List.length_append, List.length_cons, List.length_nil, ints_len] <;> omega)) only [hlt, head_lsts hw, wordsN, Int.reduceGT, wordsR, ne_eq, words, Nat.reduceAdd, Nat.reduceEqDiff, Nat.reduceBEq, ↓reduceIte, reduceCtorEq, SX.exit.injEq, if_true, if_false, Int.reduceAdd, Int.reduceSub, Int.reduceMul, Int.reduceLT, Int.reduceLE, Int.reduceEq, Int.reduceNe, Int.reduceNeg, Int.reduceToNat, Nat.reduceMul, Nat.reduceLT, Nat.reduceSub, Nat.reduceLeDiff]
      refine cp (weighG w K (by omega) hK0) ?_
      by_cases h0 : wErr w K = 0
      · simp (config := { maxSteps := 1000000 }) (disch := first | omega | (simp only [List.length_map, List.length_append, List.length_cons, List.length_nil, ints_len] <;> omega)) only [h0, wordsN, Int.reduceGT, wordsR, ne_eq, words, Nat.reduceAdd, Nat.reduceEqDiff, Nat.reduceBEq, ↓reduceIte, reduceCtorEq, SX.exit.injEq, if_true, if_false, Int.reduceAdd, Int.reduceSub, Int.reduceMul, Int.reduceLT, Int.reduceLE, Int.reduceEq, Int.reduceNe, Int.reduceNeg, Int.reduceToNat, Nat.reduceMul, Nat.reduceLT, Nat.reduceSub, Nat.reduceLeDiff]
        refine ⟨i + 1, by omega, ⟨by omega, fun j y hj hy => ?_⟩, ⟨[(51, .blk 51 0)], rfl, (by repeat (first | exact RO.zero | exact RO.e | refine RO.set rfl ?_)), (by repeat' (first | exact RB.nil | (refine RnL.same ?_; first | rfl | (simp only [noRef, noRefs, noRefs_append, Bool.and_self, Bool.and_true, Bool.true_and, noRefs_ints, noRefs_lsts, noRefs_pad, noRefs_tnC, noRefs_arcC, noRefs_rowF]; done)) | exact RnM.keyM rfl | exact RnL.nil | refine RnL.cons ?_ ?_ | (refine Rn.same ?_; first | rfl | (simp only [noRef, noRefs, noRefs_append, Bool.and_self, Bool.and_true, Bool.true_and, noRefs_ints, noRefs_lsts, noRefs_pad, noRefs_tnC, noRefs_arcC, noRefs_rowF]; done)) | exact Rn.sl (Nat.le_of_ble_eq_true rfl) rfl | exact Rn.ptr (Nat.le_of_ble_eq_true rfl) rfl | exact Rn.map (Nat.le_of_ble_eq_true rfl) rfl | exact Rn.slnil (Nat.le_of_ble_eq_true rfl) rfl | exact Rn.slB (Nat.le_of_ble_eq_true rfl) | exact Rn.ptrB (Nat.le_of_ble_eq_true rfl) | exact Rn.mapB (Nat.le_of_ble_eq_true rfl) | refine RB.newnil rfl rfl ?_ | refine RB.cells rfl rfl rfl ?_ ?_ | refine RB.map rfl rfl rfl ?_ ?_ | refine RB.cellsB rfl rfl ?_ ?_ | refine RB.mapB rfl rfl ?_ ?_)), (by repeat (first | exact RT.nil | (refine RT.cons ?_ ?_; · (first | exact Rn.any | exact Rn.sl (Nat.le_of_ble_eq_true rfl) rfl | exact Rn.ptr (Nat.le_of_ble_eq_true rfl) rfl | exact Rn.map (Nat.le_of_ble_eq_true rfl) rfl | exact Rn.slnil (Nat.le_of_ble_eq_true rfl) rfl | exact Rn.slB (Nat.le_of_ble_eq_true rfl) | exact Rn.ptrB (Nat.le_of_ble_eq_true rfl) | exact Rn.mapB (Nat.le_of_ble_eq_true rfl) | (refine Rn.slot ?_ ?_; (first | rfl | (rw [Int.natCast_add]; rfl)); (first | rfl | (simp only [noRef, noRefs, noRefs_append, Bool.and_self, Bool.and_true, Bool.true_and, noRefs_ints, noRefs_lsts, noRefs_pad, noRefs_tnC, noRefs_arcC, noRefs_rowF]; done))) | (refine Rn.fn ?_ ?_ <;> (repeat' (first | exact RnL.nil | refine RnL.cons ?_ ?_ | exact Rn.same rfl | exact Rn.ptrB (Nat.le_of_ble_eq_true rfl) | exact Rn.ptr (Nat.le_of_ble_eq_true rfl) rfl | exact Rn.slB (Nat.le_of_ble_eq_true rfl) | exact Rn.sl (Nat.le_of_ble_eq_true rfl) rfl)))))))⟩⟩
        by_cases e : j = i
        · subst e; rw [hw] at hy; cases hy; exact h0
        · exact hb j y (by omega) hy
      · have hv : verR K (minL R K) l = wErr w K := by
          have h1 := fstErr_at hw hb h0
          unfold verR; rw [h1, if_neg h0]
        simp (config := { maxSteps := 1000000 }) (disch := first | omega | (simp only [List.length_map, List.length_append, List.length_cons, List.length_nil, ints_len] <;> omega)) only [h0, wordsN, Int.reduceGT, wordsR, ne_eq, words, Nat.reduceAdd, Nat.reduceEqDiff, Nat.reduceBEq, ↓reduceIte, reduceCtorEq, SX.exit.injEq, if_true, if_false, Int.reduceAdd, Int.reduceSub, Int.reduceMul, Int.reduceLT, Int.reduceLE, Int.reduceEq, Int.reduceNe, Int.reduceNeg, Int.reduceToNat, Nat.reduceMul, Nat.reduceLT, Nat.reduceSub, Nat.reduceLeDiff]
        refine ⟨.inr trivial, _, rfl, ?_⟩
        rw [hv]; exact Rn.same rfl
    · have e : i = l.length := by omega
      simp (config := { maxSteps := 1000000 }) (disch := first | omega | (simp only [List.length_map, List.length_append, List.length_cons, List.length_nil, ints_len] <;> omega)) only [hlt, wordsN, Int.reduceGT, wordsR, ne_eq, words, Nat.reduceAdd, Nat.reduceEqDiff, Nat.reduceBEq, ↓reduceIte, reduceCtorEq, SX.exit.injEq, if_true, if_false, Int.reduceAdd, Int.reduceSub, Int.reduceMul, Int.reduceLT, Int.reduceLE, Int.reduceEq, Int.reduceNe, Int.reduceNeg, Int.reduceToNat, Nat.reduceMul, Nat.reduceLT, Nat.reduceSub, Nat.reduceLeDiff]
      exact ⟨(), fstErr_ok fun j y hy => hb j y (by have := (List.getElem?_eq_some_iff.1 hy).1; omega) hy, ⟨[(51, .blk 51 0)], rfl, (by repeat (first | exact RO.zero | exact RO.e | refine RO.set rfl ?_)), (by repeat' (first | exact RB.nil | (refine RnL.same ?_; first | rfl | (simp only [noRef, noRefs, noRefs_append, Bool.and_self, Bool.and_true, Bool.true_and, noRefs_ints, noRefs_lsts, noRefs_pad, noRefs_tnC, noRefs_arcC, noRefs_rowF]; done)) | exact RnM.keyM rfl | exact RnL.nil | refine RnL.cons ?_ ?_ | (refine Rn.same ?_; first | rfl | (simp only [noRef, noRefs, noRefs_append, Bool.and_self, Bool.and_true, Bool.true_and, noRefs_ints, noRefs_lsts, noRefs_pad, noRefs_tnC, noRefs_arcC, noRefs_rowF]; done)) | exact Rn.sl (Nat.le_of_ble_eq_true rfl) rfl | exact Rn.ptr (Nat.le_of_ble_eq_true rfl) rfl | exact Rn.map (Nat.le_of_ble_eq_true rfl) rfl | exact Rn.slnil (Nat.le_of_ble_eq_true rfl) rfl | exact Rn.slB (Nat.le_of_ble_eq_true rfl) | exact Rn.ptrB (Nat.le_of_ble_eq_true rfl) | exact Rn.mapB (Nat.le_of_ble_eq_true rfl) | refine RB.newnil rfl rfl ?_ | refine RB.cells rfl rfl rfl ?_ ?_ | refine RB.map rfl rfl rfl ?_ ?_ | refine RB.cellsB rfl rfl ?_ ?_ | refine RB.mapB rfl rfl ?_ ?_)), (by repeat (first | exact RT.nil | (refine RT.cons ?_ ?_; · (first | exact Rn.any | exact Rn.sl (Nat.le_of_ble_eq_true rfl) rfl | exact Rn.ptr (Nat.le_of_ble_eq_true rfl) rfl | exact Rn.map (Nat.le_of_ble_eq_true rfl) rfl | exact Rn.slnil (Nat.le_of_ble_eq_true rfl) rfl | exact Rn.slB (Nat.le_of_ble_eq_true rfl) | exact Rn.ptrB (Nat.le_of_ble_eq_true rfl) | exact Rn.mapB (Nat.le_of_ble_eq_true rfl) | (refine Rn.slot ?_ ?_; (first | rfl | (rw [Int.natCast_add]; rfl)); (first | rfl | (simp only [noRef, noRefs, noRefs_append, Bool.and_self, Bool.and_true, Bool.true_and, noRefs_ints, noRefs_lsts, noRefs_pad, noRefs_tnC, noRefs_arcC, noRefs_rowF]; done))) | (refine Rn.fn ?_ ?_ <;> (repeat' (first | exact RnL.nil | refine RnL.cons ?_ ?_ | exact Rn.same rfl | exact Rn.ptrB (Nat.le_of_ble_eq_true rfl) | exact Rn.ptr (Nat.le_of_ble_eq_true rfl) rfl | exact Rn.slB (Nat.le_of_ble_eq_true rfl) | exact Rn.sl (Nat.le_of_ble_eq_true rfl) rfl)))))))⟩⟩
  intro _ hf
  have hv : verR K (minL R K) l = if l = minL R K then 0 else 24 := by unfold verR; rw [if_pos hf]
  rw [hv]
  unfold minL
  generalize listR K (minF R K K) = M at *
  simp (config := { maxSteps := 1000000 }) (disch := first | omega | (simp only [List.length_map, List.length_append, List.length_cons, List.length_nil, ints_len] <;> omega)) only [wordsN, Int.reduceGT, wordsR, ne_eq, words, Nat.reduceAdd, Nat.reduceEqDiff, Nat.reduceBEq, ↓reduceIte, reduceCtorEq, SX.exit.injEq, if_true, if_false, Int.reduceAdd, Int.reduceSub, Int.reduceMul, Int.reduceLT, Int.reduceLE, Int.reduceEq, Int.reduceNe, Int.reduceNeg, Int.reduceToNat, Nat.reduceMul, Nat.reduceLT, Nat.reduceSub, Nat.reduceLeDiff]
  refine cp hli ?_
  simp (config := { maxSteps := 1000000 }) (disch := first | omega | (simp only [List.length_map, List.length_append, List.length_cons, List.length_nil, ints_len] <;> omega)) only [wordsN, Int.reduceGT, wordsR, ne_eq, words, Nat.reduceAdd, Nat.reduceEqDiff, Nat.reduceBEq, ↓reduceIte, reduceCtorEq, SX.exit.injEq, if_true, if_false, Int.reduceAdd, Int.reduceSub, Int.reduceMul, Int.reduceLT, Int.reduceLE, Int.reduceEq, Int.reduceNe, Int.reduceNeg, Int.reduceToNat, Nat.reduceMul, Nat.reduceLT, Nat.reduceSub, Nat.reduceLeDiff]
  refine cp (equal51 l M (by omega) (fun w hw => by have := hll w hw; omega)) ?_
  by_cases h0 : l = M
  · simp (config := { maxSteps := 1000000 }) (disch := first | omega | (simp only [List.length_map, List.length_append, List.length_cons, List.length_nil, ints_len] <;> omega)) only [h0, wordsN, Int.reduceGT, wordsR, ne_eq, words, Nat.reduceAdd, Nat.reduceEqDiff, Nat.reduceBEq, ↓reduceIte, reduceCtorEq, SX.exit.injEq, if_true, if_false, Int.reduceAdd, Int.reduceSub, Int.reduceMul, Int.reduceLT, Int.reduceLE, Int.reduceEq, Int.reduceNe, Int.reduceNeg, Int.reduceToNat, Nat.reduceMul, Nat.reduceLT, Nat.reduceSub, Nat.reduceLeDiff]
    exact ⟨.inr trivial, _, rfl, Rn.same rfl⟩
  · simp (config := { maxSteps := 1000000 }) (disch := first | omega | (simp only [List.length_map, List.length_append, List.length_cons, List.length_nil, ints_len] <;> omega)) only [h0, wordsN, Int.reduceGT, wordsR, ne_eq, words, Nat.reduceAdd, Nat.reduceEqDiff, Nat.reduceBEq, ↓reduceIte, reduceCtorEq, SX.exit.injEq, if_true, if_false, Int.reduceAdd, Int.reduceSub, Int.reduceMul, Int.reduceLT, Int.reduceLE, Int.reduceEq, Int.reduceNe, Int.reduceNeg, Int.reduceToNat, Nat.reduceMul, Nat.reduceLT, Nat.reduceSub, Nat.reduceLeDiff]
    exact ⟨.inr trivial, _, rfl, Rn.same rfl⟩
theorem VerifyN (x : Nt) (ho : NetOk x) (ht : Tiny x) (kind : Int) (hk : kind = 1 ∨ kind = 2) (l : List (List Int)) (hl : l.length ≤ 1000000) (hll : ∀ w ∈ l, w.length ≤ 1000000) :
    PSpec Try.prog 33 [netV x, .int .i64 kind, lsts l] (.int .i64 (verR (tabC x kind) (minN x kind) l)) := by
  have h2 := tab_two ht kind
  refine VerifyT x kind _ _ (newTable x ho kind hk) (tabC_five ht kind) (by have := tabR_cnt ht kind; omega) (tabR_len x kind) (fun r hr y hy => by have := h2 r hr y hy; omega) (fun f hf i _ => ?_) l hl hll
  have := (minF_prop (tabC_five ht kind) (tabR_len x kind) h2 hf).1 i
  omega
end Go.AM.SN
set_option maxRecDepth 100000
namespace Go.AM.SW
open Go.Proofs
-- overseer/overseerlaw48.InvariantVerifies
def s9 : SFn := ⟨94, [.tmp 6],
 (.seq (.region [⟨(some 3), .box .dyn (.t 0), [], none⟩,
   ⟨(some 6), .mov (.c (.bool false)), [], none⟩] [] [0, 6])
 (.seq (.seq (.region [⟨(some 13), .call .pure (.f 12) [], [], none⟩,
   ⟨(some 14), .un .not (.t 13), [0], none⟩] [] [13])
 (.cond (.t 14)
  (.seq (.region [⟨(some 6), .mov (.c (.bool false)), [], none⟩] [] [1, 2, 3, 14])
  .ret)
  .skip))
 (.seq (.region [⟨(some 15), .load (some 7) (.t 3), [], none⟩,
   ⟨(some 16), .call .pure (.f 13) [(.t 15)], [0], none⟩,
   ⟨(some 7), .alloc .dyn (.agg [.nilsl, .nilsl]), [], none⟩,
   ⟨none, .store 2 (.t 7) (.t 16), [2, 1, 1, 0, 1, 2], none⟩] [] [6, 3, 14, 15, 16])
 (.seq (.region [⟨(some 17), .mov (.t 1), [], none⟩,
   ⟨(some 18), .bin .rem (.t 17) (.c (.int .u8 2)), [0], none⟩,
   ⟨(some 19), .conv .i64 (.t 18), [1], none⟩,
   ⟨(some 20), .bin .add (.c (.int .i64 1)) (.t 19), [2], none⟩,
   ⟨(some 8), .mov (.t 20), [3, 0, 1, 2, 3], none⟩] [] [17, 18, 19, 20])
 (.seq (.region [⟨(some 22), .load (some 2) (.t 7), [], none⟩,
   ⟨(some 23), .mov (.t 8), [], none⟩,
   ⟨(some 24), .call .pure (.f 14) [(.t 22), (.t 23)], [0, 1], none⟩,
   ⟨(some 21), .mov (.t 24), [2], none⟩,
   ⟨(some 25), .extract 0 (.t 21), [3], none⟩,
   ⟨(some 26), .extract 1 (.t 21), [3], none⟩,
   ⟨(some 9), .mov (.t 25), [4, 2, 0, 1, 2, 3, 4], none⟩,
   ⟨(some 10), .mov (.t 26), [5, 6, 0, 1, 2, 3, 4, 5, 6], none⟩] [] [22, 23, 24, 21, 25, 26])
 (.seq (.seq (.region [⟨(some 27), .mov (.t 10), [], none⟩,
   ⟨(some 28), .bin .neq (.t 27) (.c (.int .i64 0)), [0], none⟩,
   ⟨(some 29), .mov (.t 28), [1], none⟩,
   ⟨(some 30), .load (some 2) (.t 7), [2], (some (29, false))⟩,
   ⟨(some 31), .mov (.t 8), [2], (some (29, false))⟩,
   ⟨(some 32), .mov (.t 9), [2], (some (29, false))⟩,
   ⟨(some 33), .call .heap (.f 33) [(.t 30), (.t 31), (.t 32)], [3, 4, 5, 2, 2], (some (29, false))⟩,
   ⟨(some 34), .bin .neq (.t 33) (.c (.int .i64 0)), [6, 2], (some (29, false))⟩,
   ⟨(some 35), .pick (.t 29) (.c (.bool true)) (.t 34), [2, 7], none⟩] [] [10, 27, 28, 29, 30, 31, 32, 33, 34])
 (.cond (.t 35)
  (.seq (.region [⟨(some 6), .mov (.c (.bool false)), [], none⟩] [] [1, 2, 7, 8, 9, 35])
  .ret)
  .skip))
 (.seq (.seq (.region [⟨(some 36), .mov (.t 9), [], none⟩,
   ⟨(some 37), .len 1 (.t 36), [0], none⟩,
   ⟨(some 38), .bin .eql (.t 37) (.c (.int .i64 0)), [1], none⟩] [] [6, 35, 36, 37])
 (.cond (.t 38)
  (.seq (.region [⟨(some 6), .mov (.c (.bool true)), [], none⟩] [] [1, 2, 7, 8, 9, 38])
  .ret)
  .skip))
 (.seq (.seq (.region [⟨(some 39), .load (some 2) (.t 7), [], none⟩,
   ⟨(some 40), .mov (.t 8), [], none⟩,
   ⟨(some 41), .mov (.t 9), [], none⟩,
   ⟨(some 42), .slice (some 1) (.t 41) (some (.c (.int .i64 1))) none none, [2], none⟩,
   ⟨(some 43), .call .heap (.f 33) [(.t 39), (.t 40), (.t 42)], [0, 1, 3], none⟩,
   ⟨(some 44), .bin .neq (.t 43) (.c (.int .i64 24)), [4], none⟩,
   ⟨(some 45), .mov (.t 44), [5, 4], none⟩,
   ⟨(some 46), .load (some 2) (.t 7), [6], (some (45, false))⟩,
   ⟨(some 47), .mov (.t 8), [6], (some (45, false))⟩,
   ⟨(some 48), .mov (.t 9), [6], (some (45, false))⟩,
   ⟨(some 49), .iaddr none 1 (.t 48) (.c (.int .i64 0)), [9, 6], (some (45, false))⟩,
   ⟨(some 50), .load none (.t 49), [10, 6], (some (45, false))⟩,
   ⟨(some 51), .slice (some 1) (.t 50) (some (.c (.int .i64 1))) none none, [11, 6], (some (45, false))⟩,
   ⟨(some 52), .bslice false .dyn 1 1 [.nilsl] [(0, 1, (.t 51))], [12, 6], (some (45, false))⟩,
   ⟨(some 53), .mov (.t 9), [6], (some (45, false))⟩,
   ⟨(some 54), .slice (some 1) (.t 53) (some (.c (.int .i64 1))) none none, [14, 6], (some (45, false))⟩,
   ⟨(some 55), .append .dyn 1 24 (.t 52) (.t 54), [13, 15, 6, 6], (some (45, false))⟩,
   ⟨(some 56), .call .heap (.f 33) [(.t 46), (.t 47), (.t 55)], [7, 8, 16, 16, 6], (some (45, false))⟩,
   ⟨(some 57), .bin .neq (.t 56) (.c (.int .i64 4)), [17, 6], (some (45, false))⟩,
   ⟨(some 58), .pick (.t 45) (.c (.bool true)) (.t 57), [6, 18], none⟩] [(7, 13), (7, 16)] [6, 38, 39, 40, 41, 42, 43, 44, 45, 46, 47, 48, 49, 50, 51, 52, 53, 54, 55, 56, 57])
 (.cond (.t 58)
  (.seq (.region [⟨(some 6), .mov (.c (.bool false)), [], none⟩] [] [1, 2, 7, 8, 9, 58])
  .ret)
  .skip))
 (.seq (.region [⟨(some 59), .bslice false .dyn 1 0 [] [], [], none⟩,
   ⟨(some 60), .mov (.t 9), [], none⟩,
   ⟨(some 61), .iaddr none 1 (.t 60) (.c (.int .i64 0)), [1], none⟩,
   ⟨(some 62), .load none (.t 61), [2], none⟩,
   ⟨(some 63), .append .dyn 1 8 (.t 59) (.t 62), [0, 3], none⟩,
   ⟨(some 11), .mov (.t 63), [4, 4, 0, 1, 2, 3, 4], none⟩] [] [6, 58, 59, 60, 61, 62, 63])
 (.seq (.region [⟨(some 64), .mov (.t 11), [], none⟩,
   ⟨(some 65), .mov (.t 1), [], none⟩,
   ⟨(some 66), .bin .quo (.t 65) (.c (.int .u8 2)), [1], none⟩,
   ⟨(some 67), .conv .i64 (.t 66), [2], none⟩,
   ⟨(some 68), .mov (.t 11), [], none⟩,
   ⟨(some 69), .len 1 (.t 68), [4], none⟩,
   ⟨(some 70), .bin .rem (.t 67) (.t 69), [3, 5], none⟩,
   ⟨(some 71), .mov (.t 2), [], none⟩,
   ⟨(some 72), .iaddr none 1 (.t 64) (.t 70), [0, 6, 0, 1, 2, 3, 4, 5, 6, 7], none⟩,
   ⟨none, .store 1 (.t 72) (.t 71), [8, 7, 0, 1, 2, 3, 4, 5, 6, 7], none⟩] [] [1, 64, 65, 66, 67, 68, 69, 70, 71, 72])
 (.seq (.region [⟨(some 12), .mov (.c (.int .i64 0)), [], none⟩] [] [])
 (.seq (.block 0 (.seq (.region [⟨(some 74), .mov (.t 2), [], none⟩,
   ⟨(some 75), .call .pure (.f 32) [(.t 74)], [0], none⟩,
   ⟨(some 76), .un .not (.t 75), [1], none⟩,
   ⟨(some 73), .mov (.t 76), [2, 1], none⟩] [] [2, 74, 75, 76])
 (.cond (.t 73)
  (.region [⟨(some 12), .mov (.c (.int .i64 2)), [], none⟩] [] [73])
  (.seq (.region [⟨(some 78), .mov (.t 11), [], none⟩,
    ⟨(some 79), .mov (.t 9), [], none⟩,
    ⟨(some 80), .iaddr none 1 (.t 79) (.c (.int .i64 0)), [1], none⟩,
    ⟨(some 81), .load none (.t 80), [2], none⟩,
    ⟨(some 82), .call .heap (.f 29) [(.t 78), (.t 81)], [0, 3], none⟩,
    ⟨(some 83), .un .not (.t 82), [4], none⟩,
    ⟨(some 77), .mov (.t 83), [5, 4], none⟩] [] [73, 78, 79, 80, 81, 82, 83])
  (.cond (.t 77)
   (.region [⟨(some 12), .mov (.c (.int .i64 24)), [], none⟩] [] [77])
   .skip)))))
 (.seq (.region [⟨(some 84), .load (some 2) (.t 7), [], none⟩,
   ⟨(some 85), .mov (.t 8), [], none⟩,
   ⟨(some 86), .mov (.t 11), [], none⟩,
   ⟨(some 87), .bslice false .dyn 1 1 [.nilsl] [(0, 1, (.t 86))], [2], none⟩,
   ⟨(some 88), .mov (.t 9), [], none⟩,
   ⟨(some 89), .slice (some 1) (.t 88) (some (.c (.int .i64 1))) none none, [4], none⟩,
   ⟨(some 90), .append .dyn 1 24 (.t 87) (.t 89), [3, 5], none⟩,
   ⟨(some 91), .call .heap (.f 33) [(.t 84), (.t 85), (.t 90)], [0, 1, 6, 6], none⟩,
   ⟨(some 92), .mov (.t 12), [], none⟩,
   ⟨(some 93), .bin .eql (.t 91) (.t 92), [7, 8], none⟩,
   ⟨(some 6), .mov (.t 93), [9, 7, 0, 1, 2, 3, 4, 5, 6, 7, 8, 9], none⟩] [(0, 3), (0, 6)] [7, 8, 9, 11, 12, 77, 84, 85, 86, 87, 88, 89, 90, 91, 92, 93])
 .ret)))))))))))))⟩
theorem ok9 : okFn Try.prog 9 s9 = true := by kernel_rfl
end Go.AM.SW
set_option maxRecDepth 100000
namespace Go.AM.SV
open Go.Proofs
-- overseer/overseerlaw48.known
def s12 : SFn := ⟨106, [.tmp 0],
 (.seq (.region [⟨(some 0), .mov (.c (.bool false)), [], none⟩] [] [0])
 (.seq (.region [⟨(some 14), .call .pure (.f 38) [], [], none⟩,
   ⟨(some 15), .call .pure (.f 14) [(.t 14), (.c (.int .i64 1))], [0, 0], none⟩,
   ⟨(some 13), .mov (.t 15), [1], none⟩,
   ⟨(some 16), .extract 0 (.t 13), [2], none⟩,
   ⟨(some 17), .extract 1 (.t 13), [2], none⟩,
   ⟨(some 1), .mov (.t 16), [3, 1, 0, 1, 2, 3], none⟩,
   ⟨(some 2), .mov (.t 17), [4, 5, 0, 1, 2, 3, 4, 5], none⟩] [] [14, 15, 13, 16, 17])
 (.seq (.region [⟨(some 19), .call .pure (.f 38) [], [], none⟩,
   ⟨(some 20), .bslice true .dyn 1 2 [(.int .i64 0), (.int .i64 0)] [(0, 1, (.c (.int .i64 1))), (1, 1, (.c (.int .i64 1)))], [], none⟩,
   ⟨(some 21), .bslice true .dyn 1 1 [.nilsl] [(0, 1, (.t 20))], [1], none⟩,
   ⟨(some 22), .call .pure (.f 23) [(.t 19), (.t 21)], [0, 2, 0], none⟩,
   ⟨(some 18), .mov (.t 22), [3], none⟩,
   ⟨(some 23), .extract 0 (.t 18), [4], none⟩,
   ⟨(some 24), .extract 1 (.t 18), [4], none⟩,
   ⟨(some 3), .mov (.t 23), [5, 3, 0, 1, 2, 3, 4, 5], none⟩,
   ⟨(some 4), .mov (.t 24), [6, 7, 0, 1, 2, 3, 4, 5, 6, 7], none⟩] [] [19, 20, 21, 22, 18, 23, 24])
 (.seq (.region [⟨(some 26), .call .pure (.f 38) [], [], none⟩,
   ⟨(some 27), .bslice true .dyn 1 2 [(.int .i64 0), (.int .i64 0)] [(0, 1, (.c (.int .i64 1))), (1, 1, (.c (.int .i64 1)))], [], none⟩,
   ⟨(some 28), .bslice true .dyn 1 1 [.nilsl] [(0, 1, (.t 27))], [1], none⟩,
   ⟨(some 29), .bslice true .dyn 1 2 [(.int .i64 0), (.int .i64 0)] [(0, 1, (.c (.int .i64 1))), (1, 1, (.c (.int .i64 1)))], [], none⟩,
   ⟨(some 30), .call .pure (.f 24) [(.t 26), (.t 28), (.t 29)], [0, 2, 3, 0], none⟩,
   ⟨(some 25), .mov (.t 30), [4], none⟩,
   ⟨(some 31), .extract 0 (.t 25), [5], none⟩,
   ⟨(some 32), .extract 1 (.t 25), [5], none⟩,
   ⟨(some 33), .extract 2 (.t 25), [5], none⟩,
   ⟨(some 5), .mov (.t 31), [6, 4, 0, 1, 2, 3, 4, 5, 6], none⟩,
   ⟨(some 6), .mov (.t 32), [7, 9, 0, 1, 2, 3, 4, 5, 6, 7, 9], none⟩,
   ⟨(some 7), .mov (.t 33), [8, 10, 0, 1, 2, 3, 4, 5, 6, 7, 8, 9, 10], none⟩] [] [26, 27, 28, 29, 30, 25, 31, 32, 33, 5])
 (.seq (.region [⟨(some 34), .bslice true .dyn 1 2 [(.int .i64 0), (.int .i64 0)] [(0, 1, (.c (.int .i64 4))), (1, 1, (.c (.int .i64 0)))], [], none⟩,
   ⟨(some 35), .build [(.int .i64 0), (.int .i64 0)] [(0, 1, (.c (.int .i64 0))), (1, 1, (.c (.int .i64 2)))], [], none⟩,
   ⟨(some 36), .bslice true .dyn 2 1 [(.int .i64 0), (.int .i64 0)] [(0, 2, (.t 35))], [1], none⟩,
   ⟨(some 37), .build [(.int .i64 0), (.int .i64 0)] [(0, 1, (.c (.int .i64 1))), (1, 1, (.c (.int .i64 3)))], [], none⟩,
   ⟨(some 38), .bslice true .dyn 2 1 [(.int .i64 0), (.int .i64 0)] [(0, 2, (.t 37))], [3], none⟩,
   ⟨(some 39), .build [(.int .i64 0), .nilsl, .nilsl] [(1, 1, (.t 36)), (2, 1, (.t 38))], [2, 4], none⟩,
   ⟨(some 40), .bslice true .dyn 3 1 [(.int .i64 0), .nilsl, .nilsl] [(0, 3, (.t 39))], [5], none⟩,
   ⟨(some 41), .build [.nilsl, .nilsl] [(0, 1, (.t 34)), (1, 1, (.t 40))], [0, 6], none⟩,
   ⟨(some 8), .alloc .dyn (.agg [.nilsl, .nilsl]), [], none⟩,
   ⟨none, .store 2 (.t 8) (.t 41), [8, 7, 0, 1, 2, 3, 4, 5, 6, 7, 8], none⟩] [] [34, 35, 36, 37, 38, 39, 40, 41])
 (.seq (.region [⟨(some 43), .load (some 2) (.t 8), [], none⟩,
   ⟨(some 44), .call .pure (.f 14) [(.t 43), (.c (.int .i64 1))], [0], none⟩,
   ⟨(some 42), .mov (.t 44), [1], none⟩,
   ⟨(some 45), .extract 0 (.t 42), [2], none⟩,
   ⟨(some 46), .extract 1 (.t 42), [2], none⟩,
   ⟨(some 9), .mov (.t 45), [3, 1, 0, 1, 2, 3], none⟩,
   ⟨(some 10), .mov (.t 46), [4, 5, 0, 1, 2, 3, 4, 5], none⟩] [] [43, 44, 42, 45, 46])
 (.seq (.region [⟨(some 48), .load (some 2) (.t 8), [], none⟩,
   ⟨(some 49), .call .pure (.f 15) [(.t 48), (.c (.int .i64 2))], [0], none⟩,
   ⟨(some 47), .mov (.t 49), [1], none⟩,
   ⟨(some 50), .extract 0 (.t 47), [2], none⟩,
   ⟨(some 51), .extract 1 (.t 47), [2], none⟩,
   ⟨(some 11), .mov (.t 50), [3, 1, 0, 1, 2, 3], none⟩,
   ⟨(some 12), .mov (.t 51), [4, 5, 0, 1, 2, 3, 4, 5], none⟩] [] [8, 48, 49, 47, 50, 51])
 (.seq (.region [⟨(some 52), .mov (.t 2), [], none⟩,
   ⟨(some 53), .bin .eql (.t 52) (.c (.int .i64 0)), [0], none⟩,
   ⟨(some 54), .mov (.t 53), [1], none⟩,
   ⟨(some 55), .mov (.t 1), [2], (some (54, true))⟩,
   ⟨(some 56), .len 1 (.t 55), [3, 2], (some (54, true))⟩,
   ⟨(some 57), .bin .eql (.t 56) (.c (.int .i64 1)), [4, 2], (some (54, true))⟩,
   ⟨(some 58), .pick (.t 54) (.t 57) (.c (.bool false)), [2, 5], none⟩,
   ⟨(some 59), .mov (.t 58), [6, 2], none⟩,
   ⟨(some 60), .mov (.t 1), [7], (some (59, true))⟩,
   ⟨(some 61), .iaddr none 1 (.t 60) (.c (.int .i64 0)), [8, 7], (some (59, true))⟩,
   ⟨(some 62), .load none (.t 61), [9, 7], (some (59, true))⟩,
   ⟨(some 63), .bslice true .dyn 1 2 [(.int .i64 0), (.int .i64 0)] [(0, 1, (.c (.int .i64 1))), (1, 1, (.c (.int .i64 1)))], [7], (some (59, true))⟩,
   ⟨(some 64), .call .pure (.f 29) [(.t 62), (.t 63)], [10, 11, 7, 7], (some (59, true))⟩,
   ⟨(some 65), .pick (.t 59) (.t 64) (.c (.bool false)), [7, 12], none⟩,
   ⟨(some 66), .mov (.t 65), [13, 12], none⟩,
   ⟨(some 67), .mov (.t 4), [14], (some (66, true))⟩,
   ⟨(some 68), .bin .eql (.t 67) (.c (.int .i64 0)), [15, 14], (some (66, true))⟩,
   ⟨(some 69), .pick (.t 66) (.t 68) (.c (.bool false)), [14, 16], none⟩,
   ⟨(some 70), .mov (.t 69), [17, 14], none⟩,
   ⟨(some 71), .mov (.t 3), [18], (some (70, true))⟩,
   ⟨(some 72), .bslice true .dyn 1 2 [(.int .i64 0), (.int .i64 0)] [(0, 1, (.c (.int .i64 1))), (1, 1, (.c (.int .i64 1)))], [18], (some (70, true))⟩,
   ⟨(some 73), .call .pure (.f 29) [(.t 71), (.t 72)], [19, 20, 18, 18], (some (70, true))⟩,
   ⟨(some 74), .pick (.t 70) (.t 73) (.c (.bool false)), [18, 21], none⟩,
   ⟨(some 75), .mov (.t 74), [22, 21], none⟩,
   ⟨(some 76), .mov (.t 7), [23], (some (75, true))⟩,
   ⟨(some 77), .bin .eql (.t 76) (.c (.int .i64 0)), [24, 23], (some (75, true))⟩,
   ⟨(some 78), .pick (.t 75) (.t 77) (.c (.bool false)), [23, 25], none⟩,
   ⟨(some 79), .mov (.t 78), [26, 23], none⟩,
   ⟨(some 80), .mov (.t 6), [27], (some (79, true))⟩,
   ⟨(some 81), .pick (.t 79) (.t 80) (.c (.bool false)), [27, 28], none⟩,
   ⟨(some 82), .mov (.t 81), [29, 27], none⟩,
   ⟨(some 83), .mov (.t 10), [30], (some (82, true))⟩,
   ⟨(some 84), .bin .eql (.t 83) (.c (.int .i64 0)), [31, 30], (some (82, true))⟩,
   ⟨(some 85), .pick (.t 82) (.t 84) (.c (.bool false)), [30, 32], none⟩,
   ⟨(some 86), .mov (.t 85), [33, 30], none⟩,
   ⟨(some 87), .mov (.t 9), [34], (some (86, true))⟩,
   ⟨(some 88), .len 1 (.t 87), [35, 34], (some (86, true))⟩,
   ⟨(some 89), .bin .eql (.t 88) (.c (.int .i64 1)), [36, 34], (some (86, true))⟩,
   ⟨(some 90), .pick (.t 86) (.t 89) (.c (.bool false)), [34, 37], none⟩,
   ⟨(some 91), .mov (.t 90), [38, 34], none⟩,
   ⟨(some 92), .mov (.t 9), [39], (some (91, true))⟩,
   ⟨(some 93), .iaddr none 1 (.t 92) (.c (.int .i64 0)), [40, 39], (some (91, true))⟩,
   ⟨(some 94), .load none (.t 93), [41, 39], (some (91, true))⟩,
   ⟨(some 95), .bslice true .dyn 1 2 [(.int .i64 0), (.int .i64 0)] [(0, 1, (.c (.int .i64 3))), (1, 1, (.c (.int .i64 2)))], [39], (some (91, true))⟩,
   ⟨(some 96), .call .pure (.f 29) [(.t 94), (.t 95)], [42, 43, 39, 39], (some (91, true))⟩,
   ⟨(some 97), .pick (.t 91) (.t 96) (.c (.bool false)), [39, 44], none⟩,
   ⟨(some 98), .mov (.t 97), [45, 44], none⟩,
   ⟨(some 99), .mov (.t 12), [46], (some (98, true))⟩,
   ⟨(some 100), .bin .eql (.t 99) (.c (.int .i64 0)), [47, 46], (some (98, true))⟩,
   ⟨(some 101), .pick (.t 98) (.t 100) (.c (.bool false)), [46, 48], none⟩,
   ⟨(some 102), .mov (.t 101), [49, 46], none⟩,
   ⟨(some 103), .mov (.t 11), [50], (some (102, true))⟩,
   ⟨(some 104), .un .not (.t 103), [51, 50], (some (102, true))⟩,
   ⟨(some 105), .pick (.t 102) (.t 104) (.c (.bool false)), [50, 52], none⟩,
   ⟨(some 0), .mov (.t 105), [53, 50, 0, 1, 2, 3, 4, 5, 6, 7, 8, 9, 10, 11, 12, 13, 14, 15, 16, 17, 18, 19, 20, 21, 22, 23, 24, 25, 26, 27, 28, 29, 30, 31, 32, 33, 34, 35, 36, 37, 38, 39, 40, 41, 42, 43, 44, 45, 46, 47, 48, 49, 50, 51, 52, 53], none⟩] [] [1, 2, 3, 4, 6, 7, 9, 10, 11, 12, 52, 53, 54, 55, 56, 57, 58, 59, 60, 61, 62, 63, 64, 65, 66, 67, 68, 69, 70, 71, 72, 73, 74, 75, 76, 77, 78, 79, 80, 81, 82, 83, 84, 85, 86, 87, 88, 89, 90, 91, 92, 93, 94, 95, 96, 97, 98, 99, 100, 101, 102, 103, 104, 105])
 .ret))))))))⟩
-- overseer/overseerlaw48.exchange
def s38 : SFn := ⟨14, [.cell 0 (some 2)],
 (.seq (.region [⟨(some 0), .alloc .dyn (.agg [.nilsl, .nilsl]), [], none⟩] [] [])
 (.seq (.region [⟨(some 1), .bslice true .dyn 1 2 [(.int .i64 0), (.int .i64 0)] [(0, 1, (.c (.int .i64 1))), (1, 1, (.c (.int .i64 0)))], [], none⟩,
   ⟨(some 2), .build [(.int .i64 0), (.int .i64 0)] [(0, 1, (.c (.int .i64 0))), (1, 1, (.c (.int .i64 1)))], [], none⟩,
   ⟨(some 3), .bslice true .dyn 2 1 [(.int .i64 0), (.int .i64 0)] [(0, 2, (.t 2))], [1], none⟩,
   ⟨(some 4), .build [(.int .i64 0), (.int .i64 0)] [(0, 1, (.c (.int .i64 1))), (1, 1, (.c (.int .i64 1)))], [], none⟩,
   ⟨(some 5), .bslice true .dyn 2 1 [(.int .i64 0), (.int .i64 0)] [(0, 2, (.t 4))], [3], none⟩,
   ⟨(some 6), .build [(.int .i64 0), .nilsl, .nilsl] [(0, 1, (.c (.int .i64 0))), (1, 1, (.t 3)), (2, 1, (.t 5))], [2, 4], none⟩,
   ⟨(some 7), .build [(.int .i64 0), (.int .i64 0)] [(0, 1, (.c (.int .i64 1))), (1, 1, (.c (.int .i64 1)))], [], none⟩,
   ⟨(some 8), .bslice true .dyn 2 1 [(.int .i64 0), (.int .i64 0)] [(0, 2, (.t 7))], [6], none⟩,
   ⟨(some 9), .build [(.int .i64 0), (.int .i64 0)] [(0, 1, (.c (.int .i64 0))), (1, 1, (.c (.int .i64 1)))], [], none⟩,
   ⟨(some 10), .bslice true .dyn 2 1 [(.int .i64 0), (.int .i64 0)] [(0, 2, (.t 9))], [8], none⟩,
   ⟨(some 11), .build [(.int .i64 0), .nilsl, .nilsl] [(0, 1, (.c (.int .i64 1))), (1, 1, (.t 8)), (2, 1, (.t 10))], [7, 9], none⟩,
   ⟨(some 12), .bslice true .dyn 3 2 [(.int .i64 0), .nilsl, .nilsl, (.int .i64 0), .nilsl, .nilsl] [(0, 3, (.t 6)), (3, 3, (.t 11))], [5, 10], none⟩,
   ⟨(some 13), .build [.nilsl, .nilsl] [(0, 1, (.t 1)), (1, 1, (.t 12))], [0, 11], none⟩,
   ⟨none, .store 2 (.t 0) (.t 13), [12, 0, 1, 2, 3, 4, 5, 6, 7, 8, 9, 10, 11, 12], none⟩] [] [1, 2, 3, 4, 5, 6, 7, 8, 9, 10, 11, 12, 13])
 .ret))⟩
theorem ok12 : okFn Try.prog 12 s12 = true := by kernel_rfl
theorem ok38 : okFn Try.prog 38 s38 = true := by kernel_rfl
end Go.AM.SV
namespace Go.AM.SN
open Go.Proofs
set_option maxRecDepth 100000
set_option linter.unusedSimpArgs false
set_option linter.unusedVariables false
def exN : Nt := ⟨[1, 0], [⟨0, [(0, 1)], [(1, 1)]⟩, ⟨1, [(1, 1)], [(0, 1)]⟩]⟩
def twoN : Nt := ⟨[4, 0], [⟨0, [(0, 2)], [(1, 3)]⟩]⟩
theorem arcs1_ok {p w n : Int} (h : 0 ≤ p ∧ p < n ∧ 1 ≤ w ∧ w ≤ 8) : ArcsOk [(p, w)] n where
  len := by simp
  each := fun i a ha => by
    cases i with
    | zero => simp at ha; subst ha; exact h
    | succ i => simp at ha
  up := fun i a b ha hb => by simp at hb
theorem exN_ok : NetOk exN where
  places := by decide
  tokens := by unfold okT; decide
  trans := by decide
  ev := by decide
  inn := fun t ht => by
    simp only [exN, List.mem_cons, List.not_mem_nil, or_false] at ht
    rcases ht with rfl | rfl <;> exact arcs1_ok (by decide)
  out := fun t ht => by
    simp only [exN, List.mem_cons, List.not_mem_nil, or_false] at ht
    rcases ht with rfl | rfl <;> exact arcs1_ok (by decide)
theorem twoN_ok : NetOk twoN where
  places := by decide
  tokens := by unfold okT; decide
  trans := by decide
  ev := by decide
  inn := fun t ht => by
    simp only [twoN, List.mem_cons, List.not_mem_nil, or_false] at ht
    subst ht; exact arcs1_ok (by decide)
  out := fun t ht => by
    simp only [twoN, List.mem_cons, List.not_mem_nil, or_false] at ht
    subst ht; exact arcs1_ok (by decide)
theorem exMin : PSpec Try.prog 14 [netV exN, .int .i64 1] (.tup [lsts [[1, 1]], .int .i64 0]) := by
  have h := MinimalT exN 1 _ _ (newTable exN exN_ok 1 (.inl rfl)) (by decide +kernel) (by decide +kernel) (tabR_len exN 1) (by decide +kernel) (by decide +kernel)
  rwa [show listR (tabC exN 1) (minF (tabR exN 1) (tabC exN 1) (tabC exN 1)) = [[1, 1]] by decide +kernel] at h
theorem twoMin : PSpec Try.prog 14 [netV twoN, .int .i64 1] (.tup [lsts [[3, 2]], .int .i64 0]) := by
  have h := MinimalT twoN 1 _ _ (newTable twoN twoN_ok 1 (.inl rfl)) (by decide +kernel) (by decide +kernel) (tabR_len twoN 1) (by decide +kernel) (by decide +kernel)
  rwa [show listR (tabC twoN 1) (minF (tabR twoN 1) (tabC twoN 1) (tabC twoN 1)) = [[3, 2]] by decide +kernel] at h
theorem twoCov : PSpec Try.prog 15 [netV twoN, .int .i64 2] (.tup [.bool false, .int .i64 0]) := by
  have h := CoveredT twoN 2 _ _ (newTable twoN twoN_ok 2 (.inr rfl)) (by decide +kernel) (by decide +kernel) (tabR_len twoN 2) (by decide +kernel)
  rwa [show decide (covR (minF (tabR twoN 2) (tabC twoN 2) (tabC twoN 2)) = 2 ^ tabC twoN 2 - 1) = false by decide +kernel] at h
theorem exBnd : PSpec Try.prog 23 [netV exN, lsts [[1, 1]]] (.tup [sli [1, 1], .int .i64 0]) := by
  have h := bounds exN exN_ok [[1, 1]] (by decide) (by decide)
  rwa [show chkR exN [[1, 1]] = 0 by decide +kernel, if_pos rfl, show bndL exN [[1, 1]] = [1, 1] by decide +kernel] at h
theorem exExc : PSpec Try.prog 24 [netV exN, lsts [[1, 1]], sli [1, 1]] (.tup [.int .i64 0, .bool true, .int .i64 0]) := by
  have h := excludes exN exN_ok [[1, 1]] [1, 1] (by decide) (by decide) (by decide)
  rwa [show exV exN [[1, 1]] [1, 1] = .tup [.int .i64 0, .bool true, .int .i64 0] by
    unfold exV
    rw [if_pos (by decide +kernel), if_pos (by decide +kernel), if_pos (by decide +kernel), show firstAt (exP exN [1, 1]) [[1, 1]] = 0 by decide +kernel]] at h
theorem exchange38 : PSpec Try.prog 38 [] (netV exN) := by
  refine PSpec.of_rn 64 SV.ok38 rfl rfl (noRef_net _) ?_
  simp (config := { maxSteps := 1000000 }) (disch := first | omega | (simp only [List.length_map, List.length_append, List.length_cons, List.length_nil, ints_len] <;> omega)) only [SV.s38, aBuildSlice_frz, wZ_some, wordsN, Int.reduceGT, wordsR, ne_eq, words, Nat.reduceAdd, Nat.reduceEqDiff, Nat.reduceBEq, ↓reduceIte, reduceCtorEq, SX.exit.injEq, if_true, if_false, Int.reduceAdd, Int.reduceSub, Int.reduceMul, Int.reduceLT, Int.reduceLE, Int.reduceEq, Int.reduceNe, Int.reduceNeg, Int.reduceToNat, Nat.reduceMul, Nat.reduceLT, Nat.reduceSub, Nat.reduceLeDiff]
  exact ⟨.inr trivial, _, rfl, Rn.same (noRef_net exN)⟩
theorem known : PSpec Try.prog 12 [] (.bool true) := by
  refine PSpec.of_rn 64 SV.ok12 rfl rfl rfl ?_
  simp (config := { maxSteps := 1000000 }) (disch := first | omega | (simp only [List.length_map, List.length_append, List.length_cons, List.length_nil, ints_len] <;> omega)) only [SV.s12, wordsN, Int.reduceGT, wordsR, ne_eq, words, Nat.reduceAdd, Nat.reduceEqDiff, Nat.reduceBEq, ↓reduceIte, reduceCtorEq, SX.exit.injEq, if_true, if_false, Int.reduceAdd, Int.reduceSub, Int.reduceMul, Int.reduceLT, Int.reduceLE, Int.reduceEq, Int.reduceNe, Int.reduceNeg, Int.reduceToNat, Nat.reduceMul, Nat.reduceLT, Nat.reduceSub, Nat.reduceLeDiff]
  refine cp exchange38 ?_
  simp (config := { maxSteps := 1000000 }) (disch := first | omega | (simp only [List.length_map, List.length_append, List.length_cons, List.length_nil, ints_len] <;> omega)) only [wordsN, Int.reduceGT, wordsR, ne_eq, words, Nat.reduceAdd, Nat.reduceEqDiff, Nat.reduceBEq, ↓reduceIte, reduceCtorEq, SX.exit.injEq, if_true, if_false, Int.reduceAdd, Int.reduceSub, Int.reduceMul, Int.reduceLT, Int.reduceLE, Int.reduceEq, Int.reduceNe, Int.reduceNeg, Int.reduceToNat, Nat.reduceMul, Nat.reduceLT, Nat.reduceSub, Nat.reduceLeDiff]
  refine cp exMin ?_
  simp (config := { maxSteps := 1000000 }) (disch := first | omega | (simp only [List.length_map, List.length_append, List.length_cons, List.length_nil, ints_len] <;> omega)) only [wordsN, Int.reduceGT, wordsR, ne_eq, words, Nat.reduceAdd, Nat.reduceEqDiff, Nat.reduceBEq, ↓reduceIte, reduceCtorEq, SX.exit.injEq, if_true, if_false, Int.reduceAdd, Int.reduceSub, Int.reduceMul, Int.reduceLT, Int.reduceLE, Int.reduceEq, Int.reduceNe, Int.reduceNeg, Int.reduceToNat, Nat.reduceMul, Nat.reduceLT, Nat.reduceSub, Nat.reduceLeDiff]
  refine cp exchange38 ?_
  simp (config := { maxSteps := 1000000 }) (disch := first | omega | (simp only [List.length_map, List.length_append, List.length_cons, List.length_nil, ints_len] <;> omega)) only [aBuildSlice_frz, wZ_some, List.map_cons, List.map_nil, wordsN, Int.reduceGT, wordsR, ne_eq, words, Nat.reduceAdd, Nat.reduceEqDiff, Nat.reduceBEq, ↓reduceIte, reduceCtorEq, SX.exit.injEq, if_true, if_false, Int.reduceAdd, Int.reduceSub, Int.reduceMul, Int.reduceLT, Int.reduceLE, Int.reduceEq, Int.reduceNe, Int.reduceNeg, Int.reduceToNat, Nat.reduceMul, Nat.reduceLT, Nat.reduceSub, Nat.reduceLeDiff]
  refine cp exBnd ?_
  simp (config := { maxSteps := 1000000 }) (disch := first | omega | (simp only [List.length_map, List.length_append, List.length_cons, List.length_nil, ints_len] <;> omega)) only [wordsN, Int.reduceGT, wordsR, ne_eq, words, Nat.reduceAdd, Nat.reduceEqDiff, Nat.reduceBEq, ↓reduceIte, reduceCtorEq, SX.exit.injEq, if_true, if_false, Int.reduceAdd, Int.reduceSub, Int.reduceMul, Int.reduceLT, Int.reduceLE, Int.reduceEq, Int.reduceNe, Int.reduceNeg, Int.reduceToNat, Nat.reduceMul, Nat.reduceLT, Nat.reduceSub, Nat.reduceLeDiff]
  refine cp exchange38 ?_
  simp (config := { maxSteps := 1000000 }) (disch := first | omega | (simp only [List.length_map, List.length_append, List.length_cons, List.length_nil, ints_len] <;> omega)) only [aBuildSlice_frz, wZ_some, List.map_cons, List.map_nil, wordsN, Int.reduceGT, wordsR, ne_eq, words, Nat.reduceAdd, Nat.reduceEqDiff, Nat.reduceBEq, ↓reduceIte, reduceCtorEq, SX.exit.injEq, if_true, if_false, Int.reduceAdd, Int.reduceSub, Int.reduceMul, Int.reduceLT, Int.reduceLE, Int.reduceEq, Int.reduceNe, Int.reduceNeg, Int.reduceToNat, Nat.reduceMul, Nat.reduceLT, Nat.reduceSub, Nat.reduceLeDiff]
  refine cp exExc ?_
  simp (config := { maxSteps := 1000000 }) (disch := first | omega | (simp only [List.length_map, List.length_append, List.length_cons, List.length_nil, ints_len] <;> omega)) only [aBuildSlice_frz, wZ_some, List.map_cons, List.map_nil, wordsN, Int.reduceGT, wordsR, ne_eq, words, Nat.reduceAdd, Nat.reduceEqDiff, Nat.reduceBEq, ↓reduceIte, reduceCtorEq, SX.exit.injEq, if_true, if_false, Int.reduceAdd, Int.reduceSub, Int.reduceMul, Int.reduceLT, Int.reduceLE, Int.reduceEq, Int.reduceNe, Int.reduceNeg, Int.reduceToNat, Nat.reduceMul, Nat.reduceLT, Nat.reduceSub, Nat.reduceLeDiff]
  refine cp twoMin ?_
  simp (config := { maxSteps := 1000000 }) (disch := first | omega | (simp only [List.length_map, List.length_append, List.length_cons, List.length_nil, ints_len] <;> omega)) only [wordsN, Int.reduceGT, wordsR, ne_eq, words, Nat.reduceAdd, Nat.reduceEqDiff, Nat.reduceBEq, ↓reduceIte, reduceCtorEq, SX.exit.injEq, if_true, if_false, Int.reduceAdd, Int.reduceSub, Int.reduceMul, Int.reduceLT, Int.reduceLE, Int.reduceEq, Int.reduceNe, Int.reduceNeg, Int.reduceToNat, Nat.reduceMul, Nat.reduceLT, Nat.reduceSub, Nat.reduceLeDiff]
  refine cp twoCov ?_
  simp (config := { maxSteps := 1000000 }) (disch := first | omega | (simp only [List.length_map, List.length_append, List.length_cons, List.length_nil, ints_len] <;> omega)) only [aBuildSlice_frz, wZ_some, List.map_cons, List.map_nil, wordsN, Int.reduceGT, wordsR, ne_eq, words, Nat.reduceAdd, Nat.reduceEqDiff, Nat.reduceBEq, ↓reduceIte, reduceCtorEq, SX.exit.injEq, if_true, if_false, Int.reduceAdd, Int.reduceSub, Int.reduceMul, Int.reduceLT, Int.reduceLE, Int.reduceEq, Int.reduceNe, Int.reduceNeg, Int.reduceToNat, Nat.reduceMul, Nat.reduceLT, Nat.reduceSub, Nat.reduceLeDiff]
  refine cp (same [1, 1] [1, 1] (by decide)) ?_
  simp (config := { maxSteps := 1000000 }) (disch := first | omega | (simp only [List.length_map, List.length_append, List.length_cons, List.length_nil, ints_len] <;> omega)) only [aBuildSlice_frz, wZ_some, List.map_cons, List.map_nil, wordsN, Int.reduceGT, wordsR, ne_eq, words, Nat.reduceAdd, Nat.reduceEqDiff, Nat.reduceBEq, ↓reduceIte, reduceCtorEq, SX.exit.injEq, if_true, if_false, Int.reduceAdd, Int.reduceSub, Int.reduceMul, Int.reduceLT, Int.reduceLE, Int.reduceEq, Int.reduceNe, Int.reduceNeg, Int.reduceToNat, Nat.reduceMul, Nat.reduceLT, Nat.reduceSub, Nat.reduceLeDiff]
  refine cp (same [1, 1] [1, 1] (by decide)) ?_
  simp (config := { maxSteps := 1000000 }) (disch := first | omega | (simp only [List.length_map, List.length_append, List.length_cons, List.length_nil, ints_len] <;> omega)) only [aBuildSlice_frz, wZ_some, List.map_cons, List.map_nil, wordsN, Int.reduceGT, wordsR, ne_eq, words, Nat.reduceAdd, Nat.reduceEqDiff, Nat.reduceBEq, ↓reduceIte, reduceCtorEq, SX.exit.injEq, if_true, if_false, Int.reduceAdd, Int.reduceSub, Int.reduceMul, Int.reduceLT, Int.reduceLE, Int.reduceEq, Int.reduceNe, Int.reduceNeg, Int.reduceToNat, Nat.reduceMul, Nat.reduceLT, Nat.reduceSub, Nat.reduceLeDiff]
  refine cp (same [3, 2] [3, 2] (by decide)) ?_
  simp (config := { maxSteps := 1000000 }) (disch := first | omega | (simp only [List.length_map, List.length_append, List.length_cons, List.length_nil, ints_len] <;> omega)) only [aBuildSlice_frz, wZ_some, List.map_cons, List.map_nil, wordsN, Int.reduceGT, wordsR, ne_eq, words, Nat.reduceAdd, Nat.reduceEqDiff, Nat.reduceBEq, ↓reduceIte, reduceCtorEq, SX.exit.injEq, if_true, if_false, Int.reduceAdd, Int.reduceSub, Int.reduceMul, Int.reduceLT, Int.reduceLE, Int.reduceEq, Int.reduceNe, Int.reduceNeg, Int.reduceToNat, Nat.reduceMul, Nat.reduceLT, Nat.reduceSub, Nat.reduceLeDiff]
  exact ⟨.inr trivial, _, rfl, Rn.same rfl⟩
end Go.AM.SN
set_option linter.unusedSimpArgs false
set_option linter.unusedVariables false
namespace Go.AM
variable {P : Program}
section
variable {N : NM} {n : Nat} {d : Option Nat} {dead : List Nat} {r : List SOper} {T : Tmps} {h : Heap} {Q : QC} {fs : List Fr}
theorem aAppend_slF {sz bytes len b2 g2 off2 len2 : Nat} {cs : List AV} : wM P N (aAppend .dyn n sz bytes (.sl b2 g2 off2 len2 sz) (.fsl cs len sz)) d r dead fs n T h Q =
    wA P N (srcB (h.get b2) g2 off2 len2 sz) (some cs) g2 len2 len sz bytes b2 d r dead fs n T h Q := by
  simp only [aAppend, aSrc, if_true, slLen, wM_cells, wM_ite, wM_put]
  apply propext; constructor
  · rintro ⟨h2, cs2, hb2, h3, h4⟩
    rw [hb2, srcB_some, if_pos ⟨rfl, h3⟩]
    exact ⟨_, _, rfl, rfl, ⟨h2.1, h2.2.1⟩, h2.2.2, h4⟩
  · rintro ⟨ys, zs, hy, hz, h2, h3, h4⟩
    cases hy
    unfold srcB at hz
    split at hz
    · rename_i g3 cs2 hb2
      split at hz
      · rename_i e2
        obtain ⟨rfl, e2⟩ := e2
        cases hz
        exact ⟨⟨h2.1, h2.2, h3⟩, cs2, hb2, e2, h4⟩
      · cases hz
    · cases hz
/-- Nothing appended to a row. -/
theorem aAppend_slN {sz bytes b2 g2 off2 len2 : Nat} : wM P N (aAppend .dyn n sz bytes (.sl b2 g2 off2 len2 sz) .nilsl) d r dead fs n T h Q =
    wA P N (srcB (h.get b2) g2 off2 len2 sz) (some []) g2 len2 0 sz bytes b2 d r dead fs n T h Q := by
  simp only [aAppend, aSrc, if_true, slLen, wM_cells, wM_ite, wM_put]
  apply propext; constructor
  · rintro ⟨h2, cs2, hb2, h3, h4⟩
    rw [hb2, srcB_some, if_pos ⟨rfl, h3⟩]
    exact ⟨_, _, rfl, rfl, ⟨h2.1, h2.2.1⟩, h2.2.2, h4⟩
  · rintro ⟨ys, zs, hy, hz, h2, h3, h4⟩
    cases hy
    unfold srcB at hz
    split at hz
    · rename_i g3 cs2 hb2
      split at hz
      · rename_i e2
        obtain ⟨rfl, e2⟩ := e2
        cases hz
        exact ⟨⟨h2.1, h2.2, h3⟩, cs2, hb2, e2, h4⟩
      · cases hz
    · cases hz
end
theorem aSlice_fslL {cs : List AV} {len sz : Nat} {k : IntKind} {a : Int} : aSliceC (some sz) (.fsl cs len sz) (some (.int k a)) none none =
    if 0 ≤ a ∧ a ≤ len then some (.fsl ((cs.drop (a.toNat * sz)).take ((len - a.toNat) * sz)) (len - a.toNat) sz) else none := by
  simp only [aSliceC, if_true, aSlice, bnd, Int.le_refl, Int.toNat_natCast, and_true]
theorem aSlice_fslH {cs : List AV} {len sz : Nat} {k : IntKind} {b : Int} : aSliceC (some sz) (.fsl cs len sz) none (some (.int k b)) none =
    if 0 ≤ b ∧ b ≤ len then some (.fsl (cs.take (b.toNat * sz)) b.toNat sz) else none := by
  simp only [aSliceC, if_true, aSlice, bnd, Int.le_refl, true_and, Int.toNat_zero, Nat.zero_mul, List.drop_zero, Nat.sub_zero]
theorem aSlice_fslB {cs : List AV} {len sz : Nat} {k k2 : IntKind} {a b : Int} : aSliceC (some sz) (.fsl cs len sz) (some (.int k a)) (some (.int k2 b)) none =
    if 0 ≤ a ∧ a ≤ b ∧ b ≤ len then some (.fsl ((cs.drop (a.toNat * sz)).take ((b.toNat - a.toNat) * sz)) (b.toNat - a.toNat) sz) else none := by
  simp only [aSliceC, if_true, aSlice, bnd]
theorem aSlice_slL {b g off len sz : Nat} {k : IntKind} {a : Int} : aSliceC (some sz) (.sl b g off len sz) (some (.int k a)) none none =
    if 0 ≤ a ∧ a ≤ len then some (.sl b g (off + a.toNat * sz) (len - a.toNat) sz) else none := by
  simp only [aSliceC, if_true, aSlice, bnd, Int.le_refl, Int.toNat_natCast, true_and, Nat.zero_lt_succ, or_true, and_true]
theorem aSlice_slH {b g off len sz : Nat} {k : IntKind} {c : Int} : aSliceC (some sz) (.sl b g off len sz) none (some (.int k c)) none =
    if 0 ≤ c ∧ c ≤ len then some (.sl b g off c.toNat sz) else none := by
  simp only [aSliceC, if_true, aSlice, bnd, Int.le_refl, true_and, Int.toNat_zero, Nat.zero_mul, Nat.add_zero, Nat.sub_zero, Nat.zero_lt_succ, or_true, and_true]
theorem aSlice_slB {b g off len sz : Nat} {k k2 : IntKind} {a c : Int} : aSliceC (some sz) (.sl b g off len sz) (some (.int k a)) (some (.int k2 c)) none =
    if 0 ≤ a ∧ a ≤ c ∧ c ≤ len then some (.sl b g (off + a.toNat * sz) (c.toNat - a.toNat) sz) else none := by
  simp only [aSliceC, if_true, aSlice, bnd, Nat.zero_lt_succ, or_true, and_true]
end Go.AM
