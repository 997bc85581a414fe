/- A part of the proof of CatalogueCellsCardSaid: lemmas on the way (AmJab, AmJa, AmJs, AmQa, AmQb, AmQc, AmQd, AmQw, AmJu, AmQe, AmTa, AmJv, AmJwa, AmJwb, AmJwc, AmJwd, AmJwe, AmJwf, AmJx). Conditions: none of ours. -/
import Derived.Test.YtnjlnnbepabfcaaGreatDoorProg
import Derived.KernelRfl
import Derived.Test.YtnjlnnbepabfcaaGreatDoorAmZ8
set_option linter.unusedSectionVars false
set_option maxRecDepth 100000
namespace Go.AM.JA
open Go.Proofs
def f107 : FFn := ⟨59, [.tmp 4],
 (.seq (.region [⟨true, ⟨(some 2), .box .dyn (.t 0), [], none⟩⟩,
   ⟨true, ⟨(some 3), .box .dyn (.t 1), [], none⟩⟩,
   ⟨true, ⟨(some 4), .mov (.c (.int .i64 (.ofNat 0))), [], none⟩⟩] [] 19)
 (.seq (.seq (.region [⟨true, ⟨(some 7), .faddr 1 (.t 3), [], none⟩⟩,
   ⟨true, ⟨(some 8), .load none (.t 7), [0], none⟩⟩,
   ⟨true, ⟨(some 9), .len 1 (.t 8), [1], none⟩⟩,
   ⟨true, ⟨(some 10), .bin .eql (.t 9) (.c (.int .i64 (.ofNat 0))), [2], none⟩⟩] [] 896)
 (.cond (.t 10)
  (.seq (.region [⟨true, ⟨(some 4), .mov (.c (.int .i64 (.ofNat 12))), [], none⟩⟩] [] 1036)
  .ret)
  .skip))
 (.seq (.seq (.region [⟨true, ⟨(some 11), .faddr 1 (.t 3), [], none⟩⟩,
   ⟨true, ⟨(some 12), .load none (.t 11), [0], none⟩⟩,
   ⟨true, ⟨(some 13), .len 1 (.t 12), [1], none⟩⟩,
   ⟨true, ⟨(some 14), .mov (.c (.int .i64 (.ofNat 0))), [], none⟩⟩] [] 3088)
 (.block 0 (.loop (.seq (.region [⟨true, ⟨(some 15), .bin .lss (.t 14) (.t 13), [], none⟩⟩] [] 0)
 (.seq (.cond (.t 15)
  .skip
  (.exit 0))
 (.seq (.block 1 (.seq (.region [⟨true, ⟨(some 16), .mov (.t 14), [], none⟩⟩,
   ⟨true, ⟨(some 17), .iaddr none 2 (.t 12) (.t 14), [], none⟩⟩,
   ⟨true, ⟨(some 18), .load (some 2) (.t 17), [1], none⟩⟩,
   ⟨true, ⟨(some 6), .alloc .dyn (.agg [(.int .i64 (.ofNat 0)), (.int .i64 (.ofNat 0))]), [], none⟩⟩,
   ⟨true, ⟨(some 5), .mov (.t 16), [0, 0, 1, 2, 3], none⟩⟩,
   ⟨false, ⟨none, .store 2 (.t 6) (.t 18), [3, 2, 4, 0, 1, 2, 3, 4], none⟩⟩] [] 491520)
 (.block 2 (.seq (.region [⟨true, ⟨(some 20), .faddr 0 (.t 6), [], none⟩⟩,
   ⟨true, ⟨(some 21), .load none (.t 20), [0], none⟩⟩,
   ⟨true, ⟨(some 22), .bin .lss (.t 21) (.c (.int .i64 (.ofNat 0))), [1], none⟩⟩,
   ⟨true, ⟨(some 23), .mov (.t 22), [2], none⟩⟩,
   ⟨false, ⟨(some 24), .faddr 0 (.t 6), [3], (some (23, false))⟩⟩,
   ⟨false, ⟨(some 25), .load none (.t 24), [4, 3], (some (23, false))⟩⟩,
   ⟨false, ⟨(some 26), .faddr 0 (.t 2), [3], (some (23, false))⟩⟩,
   ⟨false, ⟨(some 27), .load none (.t 26), [6, 3], (some (23, false))⟩⟩,
   ⟨false, ⟨(some 28), .len 1 (.t 27), [7, 3], (some (23, false))⟩⟩,
   ⟨false, ⟨(some 29), .bin .geq (.t 25) (.t 28), [5, 8, 3], (some (23, false))⟩⟩,
   ⟨true, ⟨(some 30), .pick (.t 23) (.c (.bool true)) (.t 29), [3, 9], none⟩⟩,
   ⟨true, ⟨(some 19), .mov (.t 30), [10, 3], none⟩⟩] [] 1089470464)
 (.cond (.t 19)
  (.seq (.region [⟨true, ⟨(some 4), .mov (.c (.int .i64 (.ofNat 2))), [], none⟩⟩] [] 15797749765664876)
  .ret)
  (.seq (.region [⟨true, ⟨(some 32), .mov (.t 5), [], none⟩⟩,
    ⟨true, ⟨(some 33), .bin .gtr (.t 32) (.c (.int .i64 (.ofNat 0))), [0], none⟩⟩,
    ⟨true, ⟨(some 34), .mov (.t 33), [1], none⟩⟩,
    ⟨false, ⟨(some 35), .faddr 0 (.t 6), [2], (some (34, true))⟩⟩,
    ⟨false, ⟨(some 36), .load none (.t 35), [3, 2], (some (34, true))⟩⟩,
    ⟨false, ⟨(some 37), .faddr 1 (.t 3), [2], (some (34, true))⟩⟩,
    ⟨false, ⟨(some 38), .load none (.t 37), [5, 2], (some (34, true))⟩⟩,
    ⟨false, ⟨(some 39), .mov (.t 5), [2], (some (34, true))⟩⟩,
    ⟨false, ⟨(some 40), .bin .sub (.t 39) (.c (.int .i64 (.ofNat 1))), [7, 2], (some (34, true))⟩⟩,
    ⟨false, ⟨(some 41), .iaddr none 2 (.t 38) (.t 40), [6, 8, 2], (some (34, true))⟩⟩,
    ⟨false, ⟨(some 42), .faddr 0 (.t 41), [9, 2], (some (34, true))⟩⟩,
    ⟨false, ⟨(some 43), .load none (.t 42), [10, 2], (some (34, true))⟩⟩,
    ⟨false, ⟨(some 44), .bin .leq (.t 36) (.t 43), [4, 11, 2], (some (34, true))⟩⟩,
    ⟨true, ⟨(some 45), .pick (.t 34) (.t 44) (.c (.bool false)), [2, 12], none⟩⟩,
    ⟨true, ⟨(some 31), .mov (.t 45), [13, 2], none⟩⟩] [] 35214437384224)
  (.cond (.t 31)
   (.seq (.region [⟨true, ⟨(some 4), .mov (.c (.int .i64 (.ofNat 5))), [], none⟩⟩] [] 15797751912624204)
   .ret)
   (.seq (.region [⟨true, ⟨(some 47), .faddr 1 (.t 6), [], none⟩⟩,
     ⟨true, ⟨(some 48), .load none (.t 47), [0], none⟩⟩,
     ⟨true, ⟨(some 49), .bin .eql (.t 48) (.c (.int .i64 (.ofNat 0))), [1], none⟩⟩,
     ⟨true, ⟨(some 50), .mov (.t 49), [2], none⟩⟩,
     ⟨false, ⟨(some 51), .faddr 1 (.t 6), [3], (some (50, false))⟩⟩,
     ⟨false, ⟨(some 52), .load none (.t 51), [4, 3], (some (50, false))⟩⟩,
     ⟨false, ⟨(some 53), .call .heap (.f 161) [(.t 52)], [5, 3, 3], (some (50, false))⟩⟩,
     ⟨true, ⟨(some 54), .pick (.t 50) (.c (.bool true)) (.t 53), [3, 6], none⟩⟩,
     ⟨true, ⟨(some 46), .mov (.t 54), [7, 6], none⟩⟩] [] 20125462982295616)
   (.cond (.t 46)
    (.seq (.region [⟨true, ⟨(some 4), .mov (.c (.int .i64 (.ofNat 2))), [], none⟩⟩] [] 15868118509318156)
    .ret)
    .skip)))))))))
 (.region [⟨true, ⟨(some 55), .bin .add (.t 14) (.c (.int .i64 (.ofNat 1))), [], none⟩⟩,
   ⟨false, ⟨(some 14), .mov (.t 55), [0], none⟩⟩] [] 36099165763141648)))))))
 (.seq (.seq (.region [⟨true, ⟨(some 56), .faddr 2 (.t 3), [], none⟩⟩,
   ⟨true, ⟨(some 57), .load none (.t 56), [0], none⟩⟩,
   ⟨true, ⟨(some 58), .call .heap (.f 161) [(.t 57)], [1], none⟩⟩] [] 231970531878924300)
 (.cond (.t 58)
  (.seq (.region [⟨true, ⟨(some 4), .mov (.c (.int .i64 (.ofNat 2))), [], none⟩⟩] [] 288230376151711744)
  .ret)
  .skip))
 (.seq (.region [⟨false, ⟨(some 4), .mov (.c (.int .i64 (.ofNat 0))), [], none⟩⟩] [] 288230376151711744)
 .ret)))))⟩
def f108 : FFn := ⟨8, [.tmp 2],
 (.seq (.region [⟨true, ⟨(some 2), .mov (.c .nilsl), [], none⟩⟩] [] 4)
 (.seq (.seq (.region [⟨true, ⟨(some 3), .mov (.t 0), [], none⟩⟩,
   ⟨true, ⟨(some 4), .eq (.nil 2) false (.t 3) (.c .nilsl), [0], none⟩⟩] [] 8)
 (.cond (.t 4)
  (.seq (.region [⟨true, ⟨(some 2), .mov (.c .nilsl), [], none⟩⟩] [] 17)
  .ret)
  .skip))
 (.seq (.region [⟨true, ⟨(some 5), .bslice false .dyn 2 0 [] [], [], none⟩⟩,
   ⟨true, ⟨(some 6), .mov (.t 0), [], none⟩⟩,
   ⟨true, ⟨(some 7), .append .dyn 2 16 (.t 5) (.t 6), [0, 1], none⟩⟩,
   ⟨false, ⟨(some 2), .mov (.t 7), [2, 2, 0, 1, 2], none⟩⟩] [] 241)
 .ret)))⟩
def f109 : FFn := ⟨8, [.tmp 2],
 (.seq (.region [⟨true, ⟨(some 2), .mov (.c .nilsl), [], none⟩⟩] [] 4)
 (.seq (.seq (.region [⟨true, ⟨(some 3), .mov (.t 0), [], none⟩⟩,
   ⟨true, ⟨(some 4), .eq (.nil 2) false (.t 3) (.c .nilsl), [0], none⟩⟩] [] 8)
 (.cond (.t 4)
  (.seq (.region [⟨true, ⟨(some 2), .mov (.c .nilsl), [], none⟩⟩] [] 17)
  .ret)
  .skip))
 (.seq (.region [⟨true, ⟨(some 5), .bslice false .dyn 2 0 [] [], [], none⟩⟩,
   ⟨true, ⟨(some 6), .mov (.t 0), [], none⟩⟩,
   ⟨true, ⟨(some 7), .append .dyn 2 16 (.t 5) (.t 6), [0, 1], none⟩⟩,
   ⟨false, ⟨(some 2), .mov (.t 7), [2, 2, 0, 1, 2], none⟩⟩] [] 241)
 .ret)))⟩
def f132 : FFn := ⟨35, [.tmp 4],
 (.seq (.region [⟨true, ⟨(some 4), .mov (.c (.int .i64 (.ofNat 0))), [], none⟩⟩] [] 16)
 (.seq (.seq (.region [⟨true, ⟨(some 7), .mov (.t 0), [], none⟩⟩,
   ⟨true, ⟨(some 8), .len 1 (.t 7), [0], none⟩⟩,
   ⟨true, ⟨(some 9), .mov (.c (.int .i64 (.ofNat 0))), [], none⟩⟩] [] 0)
 (.block 0 (.loop (.seq (.region [⟨true, ⟨(some 10), .bin .lss (.t 9) (.t 8), [], none⟩⟩] [] 0)
 (.seq (.cond (.t 10)
  .skip
  (.exit 0))
 (.seq (.block 1 (.seq (.region [⟨true, ⟨(some 11), .mov (.t 9), [], none⟩⟩,
   ⟨true, ⟨(some 12), .iaddr none 1 (.t 7) (.t 9), [], none⟩⟩,
   ⟨true, ⟨(some 13), .load none (.t 12), [1], none⟩⟩,
   ⟨true, ⟨(some 5), .mov (.t 11), [0, 0, 1, 2], none⟩⟩,
   ⟨true, ⟨(some 6), .mov (.t 13), [2, 3, 0, 1, 2, 3], none⟩⟩] [] 15360)
 (.block 2 (.seq (.region [⟨true, ⟨(some 15), .mov (.t 6), [], none⟩⟩,
   ⟨true, ⟨(some 16), .bin .lss (.t 15) (.c (.int .i64 (.ofNat 0))), [0], none⟩⟩,
   ⟨true, ⟨(some 17), .mov (.t 16), [1], none⟩⟩,
   ⟨false, ⟨(some 18), .mov (.t 6), [2], (some (17, false))⟩⟩,
   ⟨false, ⟨(some 19), .mov (.t 1), [2], (some (17, false))⟩⟩,
   ⟨false, ⟨(some 20), .bin .geq (.t 18) (.t 19), [3, 4, 2], (some (17, false))⟩⟩,
   ⟨true, ⟨(some 21), .pick (.t 17) (.c (.bool true)) (.t 20), [2, 5], none⟩⟩,
   ⟨true, ⟨(some 14), .mov (.t 21), [6, 2], none⟩⟩] [] 2326528)
 (.cond (.t 14)
  (.seq (.region [⟨true, ⟨(some 4), .mov (.c (.int .i64 (.ofNat 2))), [], none⟩⟩] [] 8524678115)
  .ret)
  (.seq (.region [⟨true, ⟨(some 23), .mov (.t 5), [], none⟩⟩,
    ⟨true, ⟨(some 24), .bin .gtr (.t 23) (.c (.int .i64 (.ofNat 0))), [0], none⟩⟩,
    ⟨true, ⟨(some 25), .mov (.t 24), [1], none⟩⟩,
    ⟨false, ⟨(some 26), .mov (.t 6), [2], (some (25, true))⟩⟩,
    ⟨false, ⟨(some 27), .mov (.t 0), [2], (some (25, true))⟩⟩,
    ⟨false, ⟨(some 28), .mov (.t 5), [2], (some (25, true))⟩⟩,
    ⟨false, ⟨(some 29), .bin .sub (.t 28) (.c (.int .i64 (.ofNat 1))), [5, 2], (some (25, true))⟩⟩,
    ⟨false, ⟨(some 30), .iaddr none 1 (.t 27) (.t 29), [4, 6, 2], (some (25, true))⟩⟩,
    ⟨false, ⟨(some 31), .load none (.t 30), [7, 2], (some (25, true))⟩⟩,
    ⟨false, ⟨(some 32), .bin .leq (.t 26) (.t 31), [3, 8, 2], (some (25, true))⟩⟩,
    ⟨true, ⟨(some 33), .pick (.t 25) (.t 32) (.c (.bool false)), [2, 9], none⟩⟩,
    ⟨true, ⟨(some 22), .mov (.t 33), [10, 2], none⟩⟩] [] 8648671328)
  (.cond (.t 22)
   (.seq (.region [⟨true, ⟨(some 4), .mov (.c (.int .i64 (.ofNat 5))), [], none⟩⟩] [] 8528855939)
   .ret)
   .skip)))))))
 (.region [⟨true, ⟨(some 34), .bin .add (.t 9) (.c (.int .i64 (.ofNat 1))), [], none⟩⟩,
   ⟨false, ⟨(some 9), .mov (.t 34), [0], none⟩⟩] [] 17184063504)))))))
 (.seq (.region [⟨true, ⟨(some 4), .mov (.c (.int .i64 (.ofNat 0))), [], none⟩⟩] [] 8524661635)
 .ret)))⟩
def f133 : FFn := ⟨72, [.tmp 2],
 (.seq (.region [⟨true, ⟨(some 1), .box .dyn (.t 0), [], none⟩⟩,
   ⟨true, ⟨(some 2), .mov (.c (.int .i64 (.ofNat 0))), [], none⟩⟩] [] 5)
 (.seq (.seq (.region [⟨true, ⟨(some 6), .faddr 3 (.t 1), [], none⟩⟩,
   ⟨true, ⟨(some 7), .load none (.t 6), [0], none⟩⟩,
   ⟨true, ⟨(some 8), .len 1 (.t 7), [1], none⟩⟩,
   ⟨true, ⟨(some 9), .mov (.c (.int .i64 (.ofNat 0))), [], none⟩⟩] [] 64)
 (.block 0 (.loop (.seq (.region [⟨true, ⟨(some 10), .bin .lss (.t 9) (.t 8), [], none⟩⟩] [] 0)
 (.seq (.cond (.t 10)
  .skip
  (.exit 0))
 (.seq (.block 1 (.seq (.region [⟨true, ⟨(some 11), .mov (.t 9), [], none⟩⟩,
   ⟨true, ⟨(some 12), .iaddr none 3 (.t 7) (.t 9), [], none⟩⟩,
   ⟨true, ⟨(some 13), .load (some 3) (.t 12), [1], none⟩⟩,
   ⟨true, ⟨(some 4), .alloc .dyn (.agg [(.int .i64 (.ofNat 0)), (.int .i64 (.ofNat 0)), (.int .i64 (.ofNat 0))]), [], none⟩⟩,
   ⟨true, ⟨(some 3), .mov (.t 11), [0, 0, 1, 2, 3], none⟩⟩,
   ⟨false, ⟨none, .store 3 (.t 4) (.t 13), [3, 2, 4, 0, 1, 2, 3, 4], none⟩⟩] [] 15360)
 (.seq (.block 2 (.seq (.region [⟨true, ⟨(some 15), .faddr 0 (.t 4), [], none⟩⟩,
   ⟨true, ⟨(some 16), .load none (.t 15), [0], none⟩⟩,
   ⟨true, ⟨(some 17), .bin .lss (.t 16) (.c (.int .i64 (.ofNat 0))), [1], none⟩⟩,
   ⟨true, ⟨(some 18), .mov (.t 17), [2], none⟩⟩,
   ⟨false, ⟨(some 19), .faddr 0 (.t 4), [3], (some (18, false))⟩⟩,
   ⟨false, ⟨(some 20), .load none (.t 19), [4, 3], (some (18, false))⟩⟩,
   ⟨false, ⟨(some 21), .faddr 1 (.t 1), [3], (some (18, false))⟩⟩,
   ⟨false, ⟨(some 22), .load none (.t 21), [6, 3], (some (18, false))⟩⟩,
   ⟨false, ⟨(some 23), .bin .geq (.t 20) (.t 22), [5, 7, 3], (some (18, false))⟩⟩,
   ⟨true, ⟨(some 24), .pick (.t 18) (.c (.bool true)) (.t 23), [3, 8], none⟩⟩,
   ⟨true, ⟨(some 25), .mov (.t 24), [9, 3], none⟩⟩,
   ⟨false, ⟨(some 26), .faddr 2 (.t 4), [10], (some (25, false))⟩⟩,
   ⟨false, ⟨(some 27), .load none (.t 26), [11, 10], (some (25, false))⟩⟩,
   ⟨false, ⟨(some 28), .bin .lss (.t 27) (.c (.int .i64 (.ofNat 0))), [12, 10], (some (25, false))⟩⟩,
   ⟨true, ⟨(some 29), .pick (.t 25) (.c (.bool true)) (.t 28), [10, 13], none⟩⟩,
   ⟨true, ⟨(some 30), .mov (.t 29), [14, 10], none⟩⟩,
   ⟨false, ⟨(some 31), .faddr 2 (.t 4), [15], (some (30, false))⟩⟩,
   ⟨false, ⟨(some 32), .load none (.t 31), [16, 15], (some (30, false))⟩⟩,
   ⟨false, ⟨(some 33), .faddr 1 (.t 1), [15], (some (30, false))⟩⟩,
   ⟨false, ⟨(some 34), .load none (.t 33), [18, 15], (some (30, false))⟩⟩,
   ⟨false, ⟨(some 35), .bin .geq (.t 32) (.t 34), [17, 19, 15], (some (30, false))⟩⟩,
   ⟨true, ⟨(some 36), .pick (.t 30) (.c (.bool true)) (.t 35), [15, 20], none⟩⟩,
   ⟨true, ⟨(some 14), .mov (.t 36), [21, 15], none⟩⟩] [] 70380912640)
 (.cond (.t 14)
  (.seq (.region [⟨true, ⟨(some 2), .mov (.c (.int .i64 (.ofNat 2))), [], none⟩⟩] [] 1180303390408317617050)
  .ret)
  (.seq (.region [⟨true, ⟨(some 38), .faddr 0 (.t 1), [], none⟩⟩,
    ⟨true, ⟨(some 39), .load none (.t 38), [0], none⟩⟩,
    ⟨true, ⟨(some 40), .faddr 1 (.t 4), [], none⟩⟩,
    ⟨true, ⟨(some 41), .load none (.t 40), [2], none⟩⟩,
    ⟨true, ⟨(some 42), .call .heap (.f 169) [(.t 39), (.t 41)], [1, 3], none⟩⟩,
    ⟨true, ⟨(some 43), .un .not (.t 42), [4], none⟩⟩,
    ⟨true, ⟨(some 37), .mov (.t 43), [5, 4], none⟩⟩] [] 17317308153856)
  (.cond (.t 37)
   (.seq (.region [⟨true, ⟨(some 2), .mov (.c (.int .i64 (.ofNat 9))), [], none⟩⟩] [] 1180303390545756554138)
   .ret)
   .skip)))))
 (.seq (.seq (.region [⟨true, ⟨(some 44), .mov (.t 3), [], none⟩⟩,
   ⟨true, ⟨(some 45), .bin .eql (.t 44) (.c (.int .i64 (.ofNat 0))), [0], none⟩⟩] [] 17729624997892)
 (.cond (.t 45)
  (.exit 1)
  .skip))
 (.seq (.region [⟨true, ⟨(some 46), .faddr 3 (.t 1), [], none⟩⟩,
   ⟨true, ⟨(some 47), .load none (.t 46), [0], none⟩⟩,
   ⟨true, ⟨(some 48), .mov (.t 3), [], none⟩⟩,
   ⟨true, ⟨(some 49), .bin .sub (.t 48) (.c (.int .i64 (.ofNat 1))), [2], none⟩⟩,
   ⟨true, ⟨(some 50), .iaddr none 3 (.t 47) (.t 49), [1, 3], none⟩⟩,
   ⟨true, ⟨(some 51), .load (some 3) (.t 50), [4], none⟩⟩,
   ⟨true, ⟨(some 5), .alloc .dyn (.agg [(.int .i64 (.ofNat 0)), (.int .i64 (.ofNat 0)), (.int .i64 (.ofNat 0))]), [], none⟩⟩,
   ⟨false, ⟨none, .store 3 (.t 5) (.t 51), [6, 5, 0, 1, 2, 3, 4, 5, 6], none⟩⟩] [] 4468415255281672)
 (.seq (.region [⟨true, ⟨(some 52), .faddr 0 (.t 4), [], none⟩⟩,
   ⟨true, ⟨(some 53), .load none (.t 52), [0], none⟩⟩,
   ⟨true, ⟨(some 54), .faddr 0 (.t 5), [], none⟩⟩,
   ⟨true, ⟨(some 55), .load none (.t 54), [2], none⟩⟩,
   ⟨true, ⟨(some 56), .bin .lss (.t 53) (.t 55), [1, 3], none⟩⟩,
   ⟨true, ⟨(some 57), .mov (.t 56), [4], none⟩⟩,
   ⟨false, ⟨(some 58), .faddr 0 (.t 4), [5], (some (57, false))⟩⟩,
   ⟨false, ⟨(some 59), .load none (.t 58), [6, 5], (some (57, false))⟩⟩,
   ⟨false, ⟨(some 60), .faddr 0 (.t 5), [5], (some (57, false))⟩⟩,
   ⟨false, ⟨(some 61), .load none (.t 60), [8, 5], (some (57, false))⟩⟩,
   ⟨false, ⟨(some 62), .bin .eql (.t 59) (.t 61), [7, 9, 5], (some (57, false))⟩⟩,
   ⟨false, ⟨(some 63), .mov (.t 62), [10, 5, 5], (some (57, false))⟩⟩,
   ⟨false, ⟨(some 64), .faddr 1 (.t 4), [11], (some (63, true))⟩⟩,
   ⟨false, ⟨(some 65), .load none (.t 64), [12, 11], (some (63, true))⟩⟩,
   ⟨false, ⟨(some 66), .faddr 1 (.t 5), [11], (some (63, true))⟩⟩,
   ⟨false, ⟨(some 67), .load none (.t 66), [14, 11], (some (63, true))⟩⟩,
   ⟨false, ⟨(some 68), .bin .leq (.t 65) (.t 67), [13, 15, 11], (some (63, true))⟩⟩,
   ⟨false, ⟨(some 69), .pick (.t 63) (.t 68) (.c (.bool false)), [11, 16, 5], (some (57, false))⟩⟩,
   ⟨true, ⟨(some 70), .pick (.t 57) (.c (.bool true)) (.t 69), [5, 17], none⟩⟩] [] 283726776524341296)
 (.cond (.t 70)
  (.seq (.region [⟨true, ⟨(some 2), .mov (.c (.int .i64 (.ofNat 5))), [], none⟩⟩] [] 2360895011125728904066)
  .ret)
  .skip)))))))
 (.region [⟨true, ⟨(some 71), .bin .add (.t 9) (.c (.int .i64 (.ofNat 1))), [], none⟩⟩,
   ⟨false, ⟨(some 9), .mov (.t 71), [0], none⟩⟩] [] 3541774862152233910276)))))))
 (.seq (.region [⟨true, ⟨(some 2), .mov (.c (.int .i64 (.ofNat 0))), [], none⟩⟩] [] 1180303390408317600642)
 .ret)))⟩
def f144 : FFn := ⟨8, [.tmp 2],
 (.seq (.region [⟨true, ⟨(some 2), .mov (.c (.int .i64 (.ofNat 0))), [], none⟩⟩] [] 4)
 (.seq (.cond (.c (.bool false))
  (.seq (.region [⟨true, ⟨(some 3), .mov (.t 0), [], none⟩⟩,
    ⟨true, ⟨(some 4), .conv .u32 (.t 3), [0], none⟩⟩,
    ⟨true, ⟨(some 5), .call .heap (.f 191) [(.t 4)], [1], none⟩⟩,
    ⟨true, ⟨(some 2), .mov (.t 5), [2, 2, 0, 1, 2], none⟩⟩] [] 57)
  .ret)
  .skip)
 (.seq (.region [⟨true, ⟨(some 6), .mov (.t 0), [], none⟩⟩,
   ⟨true, ⟨(some 7), .call .heap (.f 192) [(.t 6)], [0], none⟩⟩,
   ⟨false, ⟨(some 2), .mov (.t 7), [1, 1, 0, 1], none⟩⟩] [] 193)
 .ret)))⟩
def f156 : FFn := ⟨5, [.tmp 2],
 (.seq (.region [⟨true, ⟨(some 2), .mov (.c (.str [])), [], none⟩⟩] [] 4)
 (.seq (.region [⟨true, ⟨(some 3), .mov (.t 0), [], none⟩⟩,
   ⟨true, ⟨(some 4), .call .heap (.f 205) [(.t 3), (.c (.int .i64 (.ofNat 10)))], [0], none⟩⟩,
   ⟨true, ⟨(some 2), .mov (.t 4), [1, 1, 0, 1], none⟩⟩] [] 25)
 .ret))⟩
def f157 : FFn := ⟨134, [],
 (.seq (.region [⟨true, ⟨(some 8), .mov (.c (.bool true)), [], none⟩⟩] [] 0)
 (.seq (.region [⟨true, ⟨(some 9), .mov (.c (.bool true)), [], none⟩⟩] [] 0)
 (.block 0 (.loop (.block 1 (.seq (.region [⟨true, ⟨(some 19), .mov (.t 2), [], none⟩⟩,
   ⟨true, ⟨(some 20), .mov (.t 1), [], none⟩⟩,
   ⟨true, ⟨(some 21), .bin .sub (.t 19) (.t 20), [0, 1], none⟩⟩,
   ⟨true, ⟨(some 10), .mov (.t 21), [2, 0, 1, 2], none⟩⟩] [] 3670016)
 (.seq (.seq (.region [⟨true, ⟨(some 22), .mov (.t 10), [], none⟩⟩,
   ⟨true, ⟨(some 23), .bin .leq (.t 22) (.c (.int .i64 (.ofNat 12))), [0], none⟩⟩] [] 4194304)
 (.cond (.t 23)
  (.seq (.region [⟨true, ⟨(some 24), .mov (.t 0), [], none⟩⟩,
    ⟨true, ⟨(some 25), .mov (.t 1), [], none⟩⟩,
    ⟨true, ⟨(some 26), .mov (.t 2), [], none⟩⟩,
    ⟨true, ⟨(some 27), .call .heap (.f 206) [(.t 24), (.t 25), (.t 26)], [0, 1, 2], none⟩⟩] [] 154667177631247541668415247)
  .ret)
  .skip))
 (.seq (.seq (.region [⟨true, ⟨(some 28), .mov (.t 3), [], none⟩⟩,
   ⟨true, ⟨(some 29), .bin .eql (.t 28) (.c (.int .i64 (.ofNat 0))), [0], none⟩⟩] [] 276824064)
 (.cond (.t 29)
  (.seq (.region [⟨true, ⟨(some 30), .mov (.t 0), [], none⟩⟩,
    ⟨true, ⟨(some 31), .mov (.t 1), [], none⟩⟩,
    ⟨true, ⟨(some 32), .mov (.t 2), [], none⟩⟩,
    ⟨true, ⟨(some 33), .call .heap (.f 207) [(.t 30), (.t 31), (.t 32)], [0, 1, 2], none⟩⟩] [] 154667177631247558051366671)
  .ret)
  .skip))
 (.seq (.seq (.region [⟨true, ⟨(some 34), .mov (.t 8), [], none⟩⟩,
   ⟨true, ⟨(some 35), .un .not (.t 34), [0], none⟩⟩] [] 17716740096)
 (.cond (.t 35)
  (.seq (.region [⟨true, ⟨(some 36), .mov (.t 0), [], none⟩⟩,
    ⟨true, ⟨(some 37), .mov (.t 1), [], none⟩⟩,
    ⟨true, ⟨(some 38), .mov (.t 2), [], none⟩⟩,
    ⟨true, ⟨(some 39), .call .heap (.f 208) [(.t 36), (.t 37), (.t 38)], [0, 1, 2], none⟩⟩] [] 1065151889408)
  (.region [⟨true, ⟨(some 40), .mov (.t 3), [], none⟩⟩,
    ⟨true, ⟨(some 41), .bin .sub (.t 40) (.c (.int .i64 (.ofNat 1))), [0], none⟩⟩,
    ⟨false, ⟨(some 3), .mov (.t 41), [1, 0, 1], none⟩⟩] [] 3298534883328))
  .skip))
 (.seq (.region [⟨true, ⟨(some 43), .mov (.t 0), [], none⟩⟩,
   ⟨true, ⟨(some 44), .mov (.t 1), [], none⟩⟩,
   ⟨true, ⟨(some 45), .mov (.t 2), [], none⟩⟩,
   ⟨true, ⟨(some 46), .call .heap (.f 209) [(.t 43), (.t 44), (.t 45)], [0, 1, 2], none⟩⟩,
   ⟨true, ⟨(some 42), .mov (.t 46), [3], none⟩⟩,
   ⟨true, ⟨(some 47), .extract 0 (.t 42), [4], none⟩⟩,
   ⟨true, ⟨(some 48), .extract 1 (.t 42), [4], none⟩⟩,
   ⟨true, ⟨(some 11), .mov (.t 47), [5, 3, 0, 1, 2, 3, 4, 5], none⟩⟩,
   ⟨true, ⟨(some 12), .mov (.t 48), [6, 7, 0, 1, 2, 3, 4, 5, 6, 7], none⟩⟩] [] 558586266648576)
 (.seq (.seq (.region [⟨true, ⟨(some 49), .mov (.t 12), [], none⟩⟩,
   ⟨true, ⟨(some 50), .bin .eql (.t 49) (.c (.int .i64 (.ofNat 2))), [0], none⟩⟩] [] 562949953421312)
 (.cond (.t 50)
  (.seq (.region [⟨true, ⟨(some 51), .mov (.t 0), [], none⟩⟩,
    ⟨true, ⟨(some 52), .mov (.t 1), [], none⟩⟩,
    ⟨true, ⟨(some 53), .mov (.t 2), [], none⟩⟩,
    ⟨true, ⟨(some 54), .call .heap (.f 210) [(.t 51), (.t 52), (.t 53)], [0, 1, 2], none⟩⟩] [] 34902897112125440)
  (.seq (.region [⟨true, ⟨(some 55), .mov (.t 2), [], none⟩⟩,
    ⟨true, ⟨(some 56), .bin .sub (.t 55) (.c (.int .i64 (.ofNat 1))), [0], none⟩⟩,
    ⟨true, ⟨(some 57), .mov (.t 11), [], none⟩⟩,
    ⟨true, ⟨(some 58), .mov (.t 1), [], none⟩⟩,
    ⟨true, ⟨(some 59), .bin .sub (.t 57) (.t 58), [2, 3], none⟩⟩,
    ⟨true, ⟨(some 60), .bin .sub (.t 56) (.t 59), [1, 4], none⟩⟩,
    ⟨false, ⟨(some 11), .mov (.t 60), [5, 0, 1, 2, 3, 4, 5], none⟩⟩] [] 2269814212194729984)
  (.region [⟨true, ⟨(some 12), .mov (.c (.int .i64 (.ofNat 1))), [], none⟩⟩] [] 0)))
  .skip))
 (.seq (.seq (.region [⟨true, ⟨(some 61), .mov (.t 8), [], none⟩⟩,
   ⟨true, ⟨(some 62), .mov (.t 61), [0], none⟩⟩,
   ⟨false, ⟨(some 63), .mov (.t 9), [1], (some (62, true))⟩⟩,
   ⟨true, ⟨(some 64), .pick (.t 62) (.t 63) (.c (.bool false)), [1, 2], none⟩⟩,
   ⟨true, ⟨(some 65), .mov (.t 64), [3, 1], none⟩⟩,
   ⟨false, ⟨(some 66), .mov (.t 12), [4], (some (65, true))⟩⟩,
   ⟨false, ⟨(some 67), .bin .eql (.t 66) (.c (.int .i64 (.ofNat 1))), [5, 4], (some (65, true))⟩⟩,
   ⟨true, ⟨(some 68), .pick (.t 65) (.t 67) (.c (.bool false)), [4, 6], none⟩⟩] [] 62258887148676583424)
 (.cond (.t 68)
  (.seq (.region [⟨true, ⟨(some 69), .mov (.t 0), [], none⟩⟩,
    ⟨true, ⟨(some 70), .mov (.t 1), [], none⟩⟩,
    ⟨true, ⟨(some 71), .mov (.t 2), [], none⟩⟩,
    ⟨true, ⟨(some 72), .call .heap (.f 211) [(.t 69), (.t 70), (.t 71)], [0, 1, 2], none⟩⟩] [] 4427218577690292387840)
  (.cond (.t 72)
   .ret
   .skip))
  .skip))
 (.seq (.seq (.region [⟨true, ⟨(some 73), .mov (.t 1), [], none⟩⟩,
   ⟨true, ⟨(some 74), .bin .gtr (.t 73) (.c (.int .i64 (.ofNat 0))), [0], none⟩⟩,
   ⟨true, ⟨(some 75), .mov (.t 74), [1], none⟩⟩,
   ⟨false, ⟨(some 76), .mov (.t 0), [2], (some (75, true))⟩⟩,
   ⟨false, ⟨(some 77), .mov (.t 1), [2], (some (75, true))⟩⟩,
   ⟨false, ⟨(some 78), .bin .sub (.t 77) (.c (.int .i64 (.ofNat 1))), [4, 2], (some (75, true))⟩⟩,
   ⟨false, ⟨(some 79), .iaddr none 1 (.t 76) (.t 78), [3, 5, 2], (some (75, true))⟩⟩,
   ⟨false, ⟨(some 80), .load none (.t 79), [6, 2], (some (75, true))⟩⟩,
   ⟨false, ⟨(some 81), .mov (.t 0), [2], (some (75, true))⟩⟩,
   ⟨false, ⟨(some 82), .mov (.t 11), [2], (some (75, true))⟩⟩,
   ⟨false, ⟨(some 83), .iaddr none 1 (.t 81) (.t 82), [8, 9, 2], (some (75, true))⟩⟩,
   ⟨false, ⟨(some 84), .load none (.t 83), [10, 2], (some (75, true))⟩⟩,
   ⟨false, ⟨(some 85), .call .heap (.f 212) [(.t 80), (.t 84)], [7, 11, 2, 2], (some (75, true))⟩⟩,
   ⟨false, ⟨(some 86), .un .not (.t 85), [12, 2], (some (75, true))⟩⟩,
   ⟨true, ⟨(some 87), .pick (.t 75) (.t 86) (.c (.bool false)), [2, 13], none⟩⟩] [] 71130645148224031031296)
 (.cond (.t 87)
  (.seq (.region [⟨true, ⟨(some 88), .mov (.t 0), [], none⟩⟩,
    ⟨true, ⟨(some 89), .mov (.t 1), [], none⟩⟩,
    ⟨true, ⟨(some 90), .mov (.t 2), [], none⟩⟩,
    ⟨true, ⟨(some 91), .mov (.t 11), [], none⟩⟩,
    ⟨true, ⟨(some 92), .call .heap (.f 213) [(.t 88), (.t 89), (.t 90), (.t 91)], [0, 1, 2, 3], none⟩⟩,
    ⟨true, ⟨(some 13), .mov (.t 92), [4, 4, 0, 1, 2, 3, 4], none⟩⟩] [] 9748777809372369664830606338)
  (.seq (.region [⟨true, ⟨(some 93), .mov (.t 13), [], none⟩⟩,
    ⟨true, ⟨(some 1), .mov (.t 93), [0, 0], none⟩⟩] [] 9903520314283042199193001984)
  (.exit 1)))
  .skip))
 (.seq (.region [⟨true, ⟨(some 95), .mov (.t 0), [], none⟩⟩,
   ⟨true, ⟨(some 96), .mov (.t 1), [], none⟩⟩,
   ⟨true, ⟨(some 97), .mov (.t 2), [], none⟩⟩,
   ⟨true, ⟨(some 98), .mov (.t 11), [], none⟩⟩,
   ⟨true, ⟨(some 99), .call .heap (.f 214) [(.t 95), (.t 96), (.t 97), (.t 98)], [0, 1, 2, 3], none⟩⟩,
   ⟨true, ⟨(some 94), .mov (.t 99), [4], none⟩⟩,
   ⟨true, ⟨(some 100), .extract 0 (.t 94), [5], none⟩⟩,
   ⟨true, ⟨(some 101), .extract 1 (.t 94), [5], none⟩⟩,
   ⟨true, ⟨(some 14), .mov (.t 100), [6, 4, 0, 1, 2, 3, 4, 5, 6], none⟩⟩,
   ⟨true, ⟨(some 15), .mov (.t 101), [7, 8, 0, 1, 2, 3, 4, 5, 6, 7, 8], none⟩⟩] [] 5050950102789262194122789227264)
 (.seq (.region [⟨true, ⟨(some 102), .mov (.t 15), [], none⟩⟩,
   ⟨true, ⟨(some 9), .mov (.t 102), [0, 0], none⟩⟩] [] 5070602400912917605986812854272)
 (.seq (.region [⟨true, ⟨(some 103), .mov (.t 14), [], none⟩⟩,
   ⟨true, ⟨(some 104), .mov (.t 1), [], none⟩⟩,
   ⟨true, ⟨(some 105), .bin .sub (.t 103) (.t 104), [0, 1], none⟩⟩,
   ⟨true, ⟨(some 106), .mov (.t 2), [], none⟩⟩,
   ⟨true, ⟨(some 107), .mov (.t 14), [], none⟩⟩,
   ⟨true, ⟨(some 108), .bin .sub (.t 106) (.t 107), [3, 4], none⟩⟩,
   ⟨true, ⟨(some 16), .mov (.t 105), [2, 0, 1, 2], none⟩⟩,
   ⟨true, ⟨(some 17), .mov (.t 108), [5, 6, 0, 1, 2, 3, 4, 5, 6], none⟩⟩] [] 638895902515027618354338415509504)
 (.seq (.region [⟨true, ⟨(some 109), .mov (.t 10), [], none⟩⟩,
   ⟨true, ⟨(some 110), .bin .quo (.t 109) (.c (.int .i64 (.ofNat 8))), [0], none⟩⟩,
   ⟨true, ⟨(some 18), .mov (.t 110), [1, 0, 1], none⟩⟩] [] 1947111321950560360698936123458560)
 (.seq (.region [⟨true, ⟨(some 111), .mov (.t 16), [], none⟩⟩,
   ⟨true, ⟨(some 112), .mov (.t 17), [], none⟩⟩,
   ⟨true, ⟨(some 113), .bin .lss (.t 111) (.t 112), [0, 1], none⟩⟩] [] 7788445287802241442795744493830144)
 (.cond (.t 113)
  (.seq (.region [⟨true, ⟨(some 114), .mov (.t 16), [], none⟩⟩,
    ⟨true, ⟨(some 115), .mov (.t 18), [], none⟩⟩,
    ⟨true, ⟨(some 116), .bin .geq (.t 114) (.t 115), [0, 1], none⟩⟩,
    ⟨true, ⟨(some 8), .mov (.t 116), [2, 0, 1, 2], none⟩⟩] [] 155768905756044828855914889877061632)
  (.seq (.region [⟨true, ⟨(some 117), .mov (.t 0), [], none⟩⟩,
    ⟨true, ⟨(some 118), .mov (.t 1), [], none⟩⟩,
    ⟨true, ⟨(some 119), .mov (.t 14), [], none⟩⟩,
    ⟨true, ⟨(some 120), .mov (.t 3), [], none⟩⟩,
    ⟨true, ⟨(some 121), .call .heap (.f 157) [(.t 117), (.t 118), (.t 119), (.t 120)], [0, 1, 2, 3], none⟩⟩] [] 5150758483666549007502252358586335234)
  (.region [⟨true, ⟨(some 122), .mov (.t 14), [], none⟩⟩,
    ⟨true, ⟨(some 123), .bin .add (.t 122) (.c (.int .i64 (.ofNat 1))), [0], none⟩⟩,
    ⟨true, ⟨(some 1), .mov (.t 123), [1, 0, 1], none⟩⟩] [] 15950735949418990474845684723364151296)))
  (.seq (.region [⟨true, ⟨(some 124), .mov (.t 17), [], none⟩⟩,
    ⟨true, ⟨(some 125), .mov (.t 18), [], none⟩⟩,
    ⟨true, ⟨(some 126), .bin .geq (.t 124) (.t 125), [0, 1], none⟩⟩,
    ⟨true, ⟨(some 8), .mov (.t 126), [2, 0, 1, 2], none⟩⟩] [] 148883920121627647420483451744057491456)
  (.seq (.region [⟨true, ⟨(some 127), .mov (.t 0), [], none⟩⟩,
    ⟨true, ⟨(some 128), .mov (.t 14), [], none⟩⟩,
    ⟨true, ⟨(some 129), .bin .add (.t 128) (.c (.int .i64 (.ofNat 1))), [1], none⟩⟩,
    ⟨true, ⟨(some 130), .mov (.t 2), [], none⟩⟩,
    ⟨true, ⟨(some 131), .mov (.t 3), [], none⟩⟩,
    ⟨true, ⟨(some 132), .call .heap (.f 157) [(.t 127), (.t 129), (.t 130), (.t 131)], [0, 2, 3, 4], none⟩⟩] [] 10718894558009561599096300134100698660868)
  (.region [⟨true, ⟨(some 133), .mov (.t 14), [], none⟩⟩,
    ⟨true, ⟨(some 2), .mov (.t 133), [0, 0], none⟩⟩] [] 10889035741470030830827987437816582782976))))))))))))))))))))))⟩
def f158 : FFn := ⟨105, [.cell 2 (some 4)],
 (.seq (.region [⟨true, ⟨(some 1), .box .dyn (.t 0), [], none⟩⟩,
   ⟨true, ⟨(some 2), .alloc .dyn (.agg [.nilsl, (.int .i64 (.ofNat 0)), .nilsl, .nilsl]), [], none⟩⟩] [] 1)
 (.seq (.region [⟨true, ⟨(some 12), .faddr 0 (.t 1), [], none⟩⟩,
   ⟨true, ⟨(some 13), .load none (.t 12), [0], none⟩⟩,
   ⟨true, ⟨(some 14), .call .heap (.f 76) [(.t 13)], [1], none⟩⟩,
   ⟨true, ⟨(some 15), .build [.nilsl, (.int .i64 (.ofNat 0)), .nilsl, .nilsl] [(0, 1, (.t 14))], [2], none⟩⟩,
   ⟨true, ⟨(some 3), .alloc .dyn (.agg [.nilsl, (.int .i64 (.ofNat 0)), .nilsl, .nilsl]), [], none⟩⟩,
   ⟨false, ⟨none, .store 4 (.t 3) (.t 15), [4, 3, 2, 0, 1, 2, 3, 4], none⟩⟩] [] 61440)
 (.seq (.seq (.region [⟨true, ⟨(some 16), .faddr 1 (.t 1), [], none⟩⟩,
   ⟨true, ⟨(some 17), .load none (.t 16), [0], none⟩⟩,
   ⟨true, ⟨(some 18), .bin .eql (.t 17) (.c (.int .i64 (.ofNat 0))), [1], none⟩⟩] [] 196608)
 (.cond (.t 18)
  (.seq (.region [⟨true, ⟨(some 19), .load (some 4) (.t 3), [], none⟩⟩,
    ⟨false, ⟨none, .store 4 (.t 2) (.t 19), [0, 0], none⟩⟩] [] 786442)
  .ret)
  .skip))
 (.seq (.region [⟨true, ⟨(some 20), .faddr 1 (.t 1), [], none⟩⟩,
   ⟨true, ⟨(some 21), .load none (.t 20), [0], none⟩⟩,
   ⟨true, ⟨(some 22), .mkslice .dyn 1 8 [(.int .i64 (.ofNat 0))] (.t 21) (.t 21), [1, 1], none⟩⟩,
   ⟨true, ⟨(some 4), .mov (.t 22), [2, 0, 1, 2], none⟩⟩] [] 7602176)
 (.seq (.seq (.region [⟨true, ⟨(some 23), .mov (.t 4), [], none⟩⟩,
   ⟨true, ⟨(some 24), .len 1 (.t 23), [0], none⟩⟩,
   ⟨true, ⟨(some 25), .mov (.c (.int .i64 (.ofNat 0))), [], none⟩⟩] [] 8388608)
 (.block 0 (.loop (.seq (.region [⟨true, ⟨(some 26), .bin .lss (.t 25) (.t 24), [], none⟩⟩] [] 0)
 (.seq (.cond (.t 26)
  .skip
  (.exit 0))
 (.seq (.block 1 (.seq (.region [⟨true, ⟨(some 27), .mov (.t 25), [], none⟩⟩,
   ⟨true, ⟨(some 5), .mov (.t 27), [0, 0], none⟩⟩] [] 201326592)
 (.region [⟨true, ⟨(some 28), .mov (.t 4), [], none⟩⟩,
   ⟨true, ⟨(some 29), .mov (.t 5), [], none⟩⟩,
   ⟨true, ⟨(some 30), .iaddr none 1 (.t 28) (.t 29), [0, 1, 0, 1], none⟩⟩,
   ⟨false, ⟨none, .store 1 (.t 30) (.c (.int .i64 (.negSucc 0))), [2, 0, 1], none⟩⟩] [] 1879048224)))
 (.region [⟨true, ⟨(some 31), .bin .add (.t 25) (.c (.int .i64 (.ofNat 1))), [], none⟩⟩,
   ⟨false, ⟨(some 25), .mov (.t 31), [0], none⟩⟩] [] 2147483648)))))))
 (.seq (.region [⟨true, ⟨(some 32), .mov (.t 4), [], none⟩⟩,
   ⟨true, ⟨(some 33), .iaddr none 1 (.t 32) (.c (.int .i64 (.ofNat 0))), [0, 0], none⟩⟩,
   ⟨false, ⟨none, .store 1 (.t 33) (.c (.int .i64 (.ofNat 0))), [1, 0], none⟩⟩] [] 12935233536)
 (.seq (.region [⟨true, ⟨(some 34), .bslice false .dyn 1 1 [(.int .i64 (.ofNat 0))] [(0, 1, (.c (.int .i64 (.ofNat 0))))], [], none⟩⟩,
   ⟨true, ⟨(some 6), .mov (.t 34), [0, 0], none⟩⟩] [] 17179869184)
 (.seq (.seq (.region [⟨true, ⟨(some 7), .mov (.c (.int .i64 (.ofNat 0))), [], none⟩⟩] [] 0)
 (.block 2 (.loop (.seq (.seq (.region [⟨true, ⟨(some 35), .mov (.t 7), [], none⟩⟩,
   ⟨true, ⟨(some 36), .mov (.t 6), [], none⟩⟩,
   ⟨true, ⟨(some 37), .len 1 (.t 36), [1], none⟩⟩,
   ⟨true, ⟨(some 38), .bin .lss (.t 35) (.t 37), [0, 2], none⟩⟩] [] 240518168576)
 (.cond (.t 38)
  .skip
  (.exit 2)))
 (.seq (.block 3 (.seq (.seq (.region [⟨true, ⟨(some 42), .faddr 2 (.t 1), [], none⟩⟩,
   ⟨true, ⟨(some 43), .load none (.t 42), [0], none⟩⟩,
   ⟨true, ⟨(some 44), .mov (.t 6), [], none⟩⟩,
   ⟨true, ⟨(some 45), .mov (.t 7), [], none⟩⟩,
   ⟨true, ⟨(some 46), .iaddr none 1 (.t 44) (.t 45), [2, 3], none⟩⟩,
   ⟨true, ⟨(some 47), .load none (.t 46), [4], none⟩⟩,
   ⟨true, ⟨(some 48), .call .heap (.f 215) [(.t 43), (.t 47)], [1, 5], none⟩⟩,
   ⟨true, ⟨(some 41), .mov (.t 48), [6], none⟩⟩,
   ⟨true, ⟨(some 49), .extract 0 (.t 41), [7], none⟩⟩,
   ⟨true, ⟨(some 50), .extract 1 (.t 41), [7], none⟩⟩,
   ⟨true, ⟨(some 8), .mov (.t 49), [8, 6, 0, 1, 2, 3, 4, 5, 6, 7, 8], none⟩⟩,
   ⟨true, ⟨(some 9), .mov (.t 50), [9, 10, 0, 1, 2, 3, 4, 5, 6, 7, 8, 9, 10], none⟩⟩] [] 2249875668336896)
 (.seq (.region [⟨true, ⟨(some 51), .mov (.t 9), [], none⟩⟩] [] 512)
 (.cond (.t 51)
  (.region [⟨true, ⟨(some 52), .faddr 2 (.t 3), [], none⟩⟩,
    ⟨true, ⟨(some 53), .load none (.t 52), [0], none⟩⟩,
    ⟨true, ⟨(some 54), .mov (.t 7), [], none⟩⟩,
    ⟨true, ⟨(some 55), .bslice false .dyn 1 1 [(.int .i64 (.ofNat 0))] [(0, 1, (.t 54))], [2], none⟩⟩,
    ⟨true, ⟨(some 56), .append .dyn 1 8 (.t 53) (.t 55), [1, 3], none⟩⟩,
    ⟨true, ⟨(some 57), .faddr 2 (.t 3), [0, 1, 2, 3, 4], none⟩⟩,
    ⟨false, ⟨none, .store 1 (.t 57) (.t 56), [5, 4, 4, 0, 1, 2, 3, 4], none⟩⟩] [] 285978576338026496)
  .skip)))
 (.seq (.region [⟨true, ⟨(some 58), .load (some 4) (.t 1), [], none⟩⟩,
   ⟨true, ⟨(some 59), .mov (.t 6), [], none⟩⟩,
   ⟨true, ⟨(some 60), .mov (.t 7), [], none⟩⟩,
   ⟨true, ⟨(some 61), .iaddr none 1 (.t 59) (.t 60), [1, 2], none⟩⟩,
   ⟨true, ⟨(some 62), .load none (.t 61), [3], none⟩⟩,
   ⟨true, ⟨(some 63), .call .heap (.f 181) [(.t 58), (.t 62)], [0, 4], none⟩⟩,
   ⟨true, ⟨(some 64), .len 1 (.t 63), [5], none⟩⟩,
   ⟨true, ⟨(some 65), .mov (.c (.int .i64 (.ofNat 0))), [], none⟩⟩] [] 8937393460516749312)
 (.block 4 (.loop (.seq (.region [⟨true, ⟨(some 66), .bin .lss (.t 65) (.t 64), [], none⟩⟩] [] 0)
 (.seq (.cond (.t 66)
  .skip
  (.exit 4))
 (.seq (.block 5 (.seq (.region [⟨true, ⟨(some 67), .iaddr none 3 (.t 63) (.t 65), [], none⟩⟩,
   ⟨true, ⟨(some 68), .load (some 3) (.t 67), [0], none⟩⟩,
   ⟨true, ⟨(some 11), .alloc .dyn (.agg [(.int .i64 (.ofNat 0)), (.int .i64 (.ofNat 0)), (.int .i64 (.ofNat 0))]), [], none⟩⟩,
   ⟨false, ⟨none, .store 3 (.t 11) (.t 68), [2, 1, 0, 1, 2], none⟩⟩] [] 516508834063867445248)
 (.seq (.seq (.region [⟨true, ⟨(some 69), .mov (.t 4), [], none⟩⟩,
   ⟨true, ⟨(some 70), .faddr 2 (.t 11), [], none⟩⟩,
   ⟨true, ⟨(some 71), .load none (.t 70), [1], none⟩⟩,
   ⟨true, ⟨(some 72), .iaddr none 1 (.t 69) (.t 71), [0, 2], none⟩⟩,
   ⟨true, ⟨(some 73), .load none (.t 72), [3], none⟩⟩,
   ⟨true, ⟨(some 74), .bin .lss (.t 73) (.c (.int .i64 (.ofNat 0))), [4], none⟩⟩] [] 18299170121119875203072)
 (.cond (.t 74)
  (.seq (.region [⟨true, ⟨(some 75), .mov (.t 4), [], none⟩⟩,
    ⟨true, ⟨(some 76), .faddr 2 (.t 11), [], none⟩⟩,
    ⟨true, ⟨(some 77), .load none (.t 76), [1], none⟩⟩,
    ⟨true, ⟨(some 78), .mov (.t 6), [], none⟩⟩,
    ⟨true, ⟨(some 79), .len 1 (.t 78), [3], none⟩⟩,
    ⟨true, ⟨(some 80), .iaddr none 1 (.t 75) (.t 77), [0, 2, 0, 1, 2, 3, 4], none⟩⟩,
    ⟨false, ⟨none, .store 1 (.t 80) (.t 79), [5, 4, 0, 1, 2, 3, 4], none⟩⟩] [] 2398962173297779768557568)
  (.region [⟨true, ⟨(some 81), .mov (.t 6), [], none⟩⟩,
    ⟨true, ⟨(some 82), .faddr 2 (.t 11), [], none⟩⟩,
    ⟨true, ⟨(some 83), .load none (.t 82), [1], none⟩⟩,
    ⟨true, ⟨(some 84), .bslice false .dyn 1 1 [(.int .i64 (.ofNat 0))] [(0, 1, (.t 83))], [2], none⟩⟩,
    ⟨true, ⟨(some 85), .append .dyn 1 8 (.t 81) (.t 84), [0, 3], none⟩⟩,
    ⟨false, ⟨(some 6), .mov (.t 85), [4, 4, 0, 1, 2, 3, 4], none⟩⟩] [] 74953400816107008831782912))
  .skip))
 (.region [⟨true, ⟨(some 86), .faddr 3 (.t 3), [], none⟩⟩,
   ⟨true, ⟨(some 87), .load none (.t 86), [0], none⟩⟩,
   ⟨true, ⟨(some 88), .mov (.t 7), [], none⟩⟩,
   ⟨true, ⟨(some 89), .faddr 1 (.t 11), [], none⟩⟩,
   ⟨true, ⟨(some 90), .load none (.t 89), [3], none⟩⟩,
   ⟨true, ⟨(some 91), .mov (.t 4), [], none⟩⟩,
   ⟨true, ⟨(some 92), .faddr 2 (.t 11), [], none⟩⟩,
   ⟨true, ⟨(some 93), .load none (.t 92), [6], none⟩⟩,
   ⟨true, ⟨(some 94), .iaddr none 1 (.t 91) (.t 93), [5, 7], none⟩⟩,
   ⟨true, ⟨(some 95), .load none (.t 94), [8], none⟩⟩,
   ⟨true, ⟨(some 96), .build [(.int .i64 (.ofNat 0)), (.int .i64 (.ofNat 0)), (.int .i64 (.ofNat 0))] [(0, 1, (.t 88)), (1, 1, (.t 90)), (2, 1, (.t 95))], [2, 4, 9], none⟩⟩,
   ⟨true, ⟨(some 97), .bslice false .dyn 3 1 [(.int .i64 (.ofNat 0)), (.int .i64 (.ofNat 0)), (.int .i64 (.ofNat 0))] [(0, 3, (.t 96))], [10], none⟩⟩,
   ⟨true, ⟨(some 98), .append .dyn 3 24 (.t 87) (.t 97), [1, 11], none⟩⟩,
   ⟨true, ⟨(some 99), .faddr 3 (.t 3), [0, 1, 2, 3, 4, 5, 6, 7, 8, 9, 10, 11, 12], none⟩⟩,
   ⟨false, ⟨none, .store 1 (.t 99) (.t 98), [13, 12, 12, 0, 1, 2, 3, 4, 5, 6, 7, 8, 9, 10, 11, 12], none⟩⟩] [] 1267573247865239996708102866944))))
 (.region [⟨true, ⟨(some 100), .bin .add (.t 65) (.c (.int .i64 (.ofNat 1))), [], none⟩⟩,
   ⟨false, ⟨(some 65), .mov (.t 100), [0], none⟩⟩] [] 1267650600228229401496703205376)))))))))
 (.region [⟨true, ⟨(some 39), .mov (.t 7), [], none⟩⟩,
   ⟨true, ⟨(some 40), .bin .add (.t 39) (.c (.int .i64 (.ofNat 1))), [0], none⟩⟩,
   ⟨false, ⟨(some 7), .mov (.t 40), [1, 0, 1], none⟩⟩] [] 64563605907250872320))))))
 (.seq (.region [⟨true, ⟨(some 101), .mov (.t 6), [], none⟩⟩,
   ⟨true, ⟨(some 102), .len 1 (.t 101), [0], none⟩⟩,
   ⟨true, ⟨(some 103), .faddr 1 (.t 3), [0, 1], none⟩⟩,
   ⟨false, ⟨none, .store 1 (.t 103) (.t 102), [2, 1, 0, 1], none⟩⟩] [] 17747108403195211620953844875474)
 (.seq (.region [⟨true, ⟨(some 104), .load (some 4) (.t 3), [], none⟩⟩,
   ⟨false, ⟨none, .store 4 (.t 2) (.t 104), [0, 0], none⟩⟩] [] 20282409603651670423947251286024)
 .ret))))))))))⟩
def f159 : FFn := ⟨19, [.tmp 4],
 (.seq (.region [⟨true, ⟨(some 4), .mov (.c (.int .i64 (.ofNat 0))), [], none⟩⟩] [] 16)
 (.seq (.seq (.region [⟨true, ⟨(some 6), .mov (.t 0), [], none⟩⟩,
   ⟨true, ⟨(some 7), .len 1 (.t 6), [0], none⟩⟩,
   ⟨true, ⟨(some 8), .mov (.c (.int .i64 (.ofNat 0))), [], none⟩⟩] [] 64)
 (.block 0 (.loop (.seq (.region [⟨true, ⟨(some 9), .bin .lss (.t 8) (.t 7), [], none⟩⟩] [] 0)
 (.seq (.cond (.t 9)
  .skip
  (.exit 0))
 (.seq (.block 1 (.seq (.region [⟨true, ⟨(some 10), .mov (.t 8), [], none⟩⟩,
   ⟨true, ⟨(some 5), .mov (.t 10), [0, 0], none⟩⟩] [] 1536)
 (.seq (.region [⟨true, ⟨(some 11), .mov (.t 1), [], none⟩⟩,
   ⟨true, ⟨(some 12), .mov (.t 0), [], none⟩⟩,
   ⟨true, ⟨(some 13), .mov (.t 5), [], none⟩⟩,
   ⟨true, ⟨(some 14), .iaddr none 1 (.t 12) (.t 13), [1, 2], none⟩⟩,
   ⟨true, ⟨(some 15), .load none (.t 14), [3], none⟩⟩,
   ⟨true, ⟨(some 16), .call .heap (.t 11) [(.t 15)], [0, 4], none⟩⟩] [] 63488)
 (.cond (.t 16)
  (.seq (.region [⟨true, ⟨(some 17), .mov (.t 5), [], none⟩⟩,
    ⟨true, ⟨(some 4), .mov (.t 17), [0, 0], none⟩⟩] [] 197027)
  .ret)
  .skip))))
 (.region [⟨true, ⟨(some 18), .bin .add (.t 8) (.c (.int .i64 (.ofNat 1))), [], none⟩⟩,
   ⟨false, ⟨(some 8), .mov (.t 18), [0], none⟩⟩] [] 327728)))))))
 (.seq (.region [⟨true, ⟨(some 4), .mov (.c (.int .i64 (.negSucc 0))), [], none⟩⟩] [] 387)
 .ret)))⟩
def f160 : FFn := ⟨8, [.tmp 4],
 (.seq (.region [⟨true, ⟨(some 4), .mov (.c .nilsl), [], none⟩⟩] [] 16)
 (.seq (.region [⟨true, ⟨(some 5), .mov (.t 0), [], none⟩⟩,
   ⟨true, ⟨(some 6), .mov (.t 1), [], none⟩⟩,
   ⟨true, ⟨(some 7), .call .heap (.f 101) [(.t 5), (.t 6), (.f 216)], [0, 1], none⟩⟩,
   ⟨true, ⟨(some 4), .mov (.t 7), [2, 2, 0, 1, 2], none⟩⟩] [] 227)
 .ret))⟩
def f161 : FFn := ⟨9, [.tmp 2],
 (.seq (.region [⟨true, ⟨(some 2), .mov (.c (.bool false)), [], none⟩⟩] [] 4)
 (.seq (.region [⟨true, ⟨(some 3), .mov (.t 0), [], none⟩⟩,
   ⟨true, ⟨(some 4), .bin .lss (.t 3) (.c (.int .i64 (.negSucc 65535))), [0], none⟩⟩,
   ⟨true, ⟨(some 5), .mov (.t 4), [1], none⟩⟩,
   ⟨true, ⟨(some 6), .mov (.t 0), [2], (some (5, false))⟩⟩,
   ⟨true, ⟨(some 7), .bin .gtr (.t 6) (.c (.int .i64 (.ofNat 65536))), [3, 2], (some (5, false))⟩⟩,
   ⟨true, ⟨(some 8), .pick (.t 5) (.c (.bool true)) (.t 7), [2, 4], none⟩⟩,
   ⟨true, ⟨(some 2), .mov (.t 8), [5, 2, 0, 1, 2, 3, 4, 5], none⟩⟩] [] 505)
 .ret))⟩
def f169 : FFn := ⟨9, [.tmp 4],
 (.seq (.region [⟨true, ⟨(some 4), .mov (.c (.bool false)), [], none⟩⟩] [] 16)
 (.seq (.region [⟨true, ⟨(some 5), .mov (.t 0), [], none⟩⟩,
   ⟨true, ⟨(some 6), .mov (.t 1), [], none⟩⟩,
   ⟨true, ⟨(some 7), .call .heap (.f 230) [(.t 5), (.t 6)], [0, 1], none⟩⟩,
   ⟨true, ⟨(some 8), .bin .geq (.t 7) (.c (.int .i64 (.ofNat 0))), [2], none⟩⟩,
   ⟨true, ⟨(some 4), .mov (.t 8), [3, 2, 0, 1, 2, 3], none⟩⟩] [] 483)
 .ret))⟩
def f181 : FFn := ⟨29, [.tmp 4],
 (.seq (.region [⟨true, ⟨(some 2), .box .dyn (.t 0), [], none⟩⟩,
   ⟨true, ⟨(some 4), .mov (.c .nilsl), [], none⟩⟩] [] 17)
 (.seq (.region [⟨true, ⟨(some 10), .faddr 3 (.t 2), [], none⟩⟩,
   ⟨true, ⟨(some 11), .load none (.t 10), [0], none⟩⟩,
   ⟨true, ⟨(some 12), .mov (.t 1), [], none⟩⟩,
   ⟨true, ⟨(some 13), .call .heap (.f 239) [(.t 11), (.t 12), (.f 240)], [1, 2], none⟩⟩,
   ⟨true, ⟨(some 9), .mov (.t 13), [3], none⟩⟩,
   ⟨true, ⟨(some 14), .extract 0 (.t 9), [4], none⟩⟩,
   ⟨true, ⟨(some 15), .extract 1 (.t 9), [4], none⟩⟩,
   ⟨true, ⟨(some 5), .mov (.t 14), [5, 3, 0, 1, 2, 3, 4, 5], none⟩⟩,
   ⟨true, ⟨(some 6), .mov (.t 15), [6, 7, 0, 1, 2, 3, 4, 5, 6, 7], none⟩⟩] [] 65088)
 (.seq (.region [⟨true, ⟨(some 17), .faddr 3 (.t 2), [], none⟩⟩,
   ⟨true, ⟨(some 18), .load none (.t 17), [0], none⟩⟩,
   ⟨true, ⟨(some 19), .mov (.t 1), [], none⟩⟩,
   ⟨true, ⟨(some 20), .bin .add (.t 19) (.c (.int .i64 (.ofNat 1))), [2], none⟩⟩,
   ⟨true, ⟨(some 21), .call .heap (.f 239) [(.t 18), (.t 20), (.f 241)], [1, 3], none⟩⟩,
   ⟨true, ⟨(some 16), .mov (.t 21), [4], none⟩⟩,
   ⟨true, ⟨(some 22), .extract 0 (.t 16), [5], none⟩⟩,
   ⟨true, ⟨(some 23), .extract 1 (.t 16), [5], none⟩⟩,
   ⟨true, ⟨(some 7), .mov (.t 22), [6, 4, 0, 1, 2, 3, 4, 5, 6], none⟩⟩,
   ⟨true, ⟨(some 8), .mov (.t 23), [7, 8, 0, 1, 2, 3, 4, 5, 6, 7, 8], none⟩⟩] [] 16711938)
 (.seq (.region [⟨true, ⟨(some 24), .faddr 3 (.t 2), [], none⟩⟩,
   ⟨true, ⟨(some 25), .load none (.t 24), [0], none⟩⟩,
   ⟨true, ⟨(some 26), .mov (.t 5), [], none⟩⟩,
   ⟨true, ⟨(some 27), .mov (.t 7), [], none⟩⟩,
   ⟨true, ⟨(some 28), .slice (some 3) (.t 25) (some (.t 26)) (some (.t 27)) none, [1, 2, 3], none⟩⟩,
   ⟨true, ⟨(some 4), .mov (.t 28), [4, 0, 1, 2, 3, 4], none⟩⟩] [] 520093860)
 .ret))))⟩
def f191 : FFn := ⟨19, [.tmp 2],
 (.seq (.region [⟨true, ⟨(some 2), .mov (.c (.int .i64 (.ofNat 0))), [], none⟩⟩] [] 0)
 (.seq (.seq (.region [⟨true, ⟨(some 3), .mov (.t 0), [], none⟩⟩,
   ⟨true, ⟨(some 4), .bin .geq (.t 3) (.c (.int .u32 (.ofNat 65536))), [0], none⟩⟩] [] 8)
 (.cond (.t 4)
  (.seq (.region [⟨true, ⟨(some 5), .mov (.t 0), [], none⟩⟩,
    ⟨true, ⟨(some 6), .bin .shr (.t 5) (.c (.int .u64 (.ofNat 16))), [0], none⟩⟩,
    ⟨false, ⟨(some 0), .mov (.t 6), [1, 0, 1], none⟩⟩] [] 116)
  (.region [⟨true, ⟨(some 2), .mov (.c (.int .i64 (.ofNat 16))), [], none⟩⟩] [] 0))
  .skip))
 (.seq (.seq (.region [⟨true, ⟨(some 7), .mov (.t 0), [], none⟩⟩,
   ⟨true, ⟨(some 8), .bin .geq (.t 7) (.c (.int .u32 (.ofNat 256))), [0], none⟩⟩] [] 144)
 (.cond (.t 8)
  (.seq (.region [⟨true, ⟨(some 9), .mov (.t 0), [], none⟩⟩,
    ⟨true, ⟨(some 10), .bin .shr (.t 9) (.c (.int .u64 (.ofNat 8))), [0], none⟩⟩,
    ⟨false, ⟨(some 0), .mov (.t 10), [1, 0, 1], none⟩⟩] [] 1792)
  (.region [⟨true, ⟨(some 11), .mov (.t 2), [], none⟩⟩,
    ⟨true, ⟨(some 12), .bin .add (.t 11) (.c (.int .i64 (.ofNat 8))), [0], none⟩⟩,
    ⟨false, ⟨(some 2), .mov (.t 12), [1, 0, 1], none⟩⟩] [] 6144))
  .skip))
 (.seq (.region [⟨true, ⟨(some 13), .mov (.t 2), [], none⟩⟩,
   ⟨true, ⟨(some 14), .mov (.t 0), [], none⟩⟩,
   ⟨true, ⟨(some 15), .conv .u8 (.t 14), [1], none⟩⟩,
   ⟨true, ⟨(some 16), .index none (.c (.str [0, 1, 2, 2, 3, 3, 3, 3, 4, 4, 4, 4, 4, 4, 4, 4, 5, 5, 5, 5, 5, 5, 5, 5, 5, 5, 5, 5, 5, 5, 5, 5, 6, 6, 6, 6, 6, 6, 6, 6, 6, 6, 6, 6, 6, 6, 6, 6, 6, 6, 6, 6, 6, 6, 6, 6, 6, 6, 6, 6, 6, 6, 6, 6, 7, 7, 7, 7, 7, 7, 7, 7, 7, 7, 7, 7, 7, 7, 7, 7, 7, 7, 7, 7, 7, 7, 7, 7, 7, 7, 7, 7, 7, 7, 7, 7, 7, 7, 7, 7, 7, 7, 7, 7, 7, 7, 7, 7, 7, 7, 7, 7, 7, 7, 7, 7, 7, 7, 7, 7, 7, 7, 7, 7, 7, 7, 7, 7, 8, 8, 8, 8, 8, 8, 8, 8, 8, 8, 8, 8, 8, 8, 8, 8, 8, 8, 8, 8, 8, 8, 8, 8, 8, 8, 8, 8, 8, 8, 8, 8, 8, 8, 8, 8, 8, 8, 8, 8, 8, 8, 8, 8, 8, 8, 8, 8, 8, 8, 8, 8, 8, 8, 8, 8, 8, 8, 8, 8, 8, 8, 8, 8, 8, 8, 8, 8, 8, 8, 8, 8, 8, 8, 8, 8, 8, 8, 8, 8, 8, 8, 8, 8, 8, 8, 8, 8, 8, 8, 8, 8, 8, 8, 8, 8, 8, 8, 8, 8, 8, 8, 8, 8, 8, 8, 8, 8, 8, 8, 8, 8, 8, 8, 8, 8, 8, 8, 8, 8, 8, 8, 8, 8, 8, 8, 8, 8])) (.t 15), [2], none⟩⟩,
   ⟨true, ⟨(some 17), .conv .i64 (.t 16), [3], none⟩⟩,
   ⟨true, ⟨(some 18), .bin .add (.t 13) (.t 17), [0, 4], none⟩⟩,
   ⟨false, ⟨(some 2), .mov (.t 18), [5, 0, 1, 2, 3, 4, 5], none⟩⟩] [] 516353)
 .ret))))⟩
def f192 : FFn := ⟨25, [.tmp 2],
 (.seq (.region [⟨true, ⟨(some 2), .mov (.c (.int .i64 (.ofNat 0))), [], none⟩⟩] [] 0)
 (.seq (.seq (.region [⟨true, ⟨(some 3), .mov (.t 0), [], none⟩⟩,
   ⟨true, ⟨(some 4), .bin .geq (.t 3) (.c (.int .u64 (.ofNat 4294967296))), [0], none⟩⟩] [] 8)
 (.cond (.t 4)
  (.seq (.region [⟨true, ⟨(some 5), .mov (.t 0), [], none⟩⟩,
    ⟨true, ⟨(some 6), .bin .shr (.t 5) (.c (.int .u64 (.ofNat 32))), [0], none⟩⟩,
    ⟨false, ⟨(some 0), .mov (.t 6), [1, 0, 1], none⟩⟩] [] 116)
  (.region [⟨true, ⟨(some 2), .mov (.c (.int .i64 (.ofNat 32))), [], none⟩⟩] [] 0))
  .skip))
 (.seq (.seq (.region [⟨true, ⟨(some 7), .mov (.t 0), [], none⟩⟩,
   ⟨true, ⟨(some 8), .bin .geq (.t 7) (.c (.int .u64 (.ofNat 65536))), [0], none⟩⟩] [] 144)
 (.cond (.t 8)
  (.seq (.region [⟨true, ⟨(some 9), .mov (.t 0), [], none⟩⟩,
    ⟨true, ⟨(some 10), .bin .shr (.t 9) (.c (.int .u64 (.ofNat 16))), [0], none⟩⟩,
    ⟨false, ⟨(some 0), .mov (.t 10), [1, 0, 1], none⟩⟩] [] 1792)
  (.region [⟨true, ⟨(some 11), .mov (.t 2), [], none⟩⟩,
    ⟨true, ⟨(some 12), .bin .add (.t 11) (.c (.int .i64 (.ofNat 16))), [0], none⟩⟩,
    ⟨false, ⟨(some 2), .mov (.t 12), [1, 0, 1], none⟩⟩] [] 6144))
  .skip))
 (.seq (.seq (.region [⟨true, ⟨(some 13), .mov (.t 0), [], none⟩⟩,
   ⟨true, ⟨(some 14), .bin .geq (.t 13) (.c (.int .u64 (.ofNat 256))), [0], none⟩⟩] [] 8448)
 (.cond (.t 14)
  (.seq (.region [⟨true, ⟨(some 15), .mov (.t 0), [], none⟩⟩,
    ⟨true, ⟨(some 16), .bin .shr (.t 15) (.c (.int .u64 (.ofNat 8))), [0], none⟩⟩,
    ⟨false, ⟨(some 0), .mov (.t 16), [1, 0, 1], none⟩⟩] [] 114688)
  (.region [⟨true, ⟨(some 17), .mov (.t 2), [], none⟩⟩,
    ⟨true, ⟨(some 18), .bin .add (.t 17) (.c (.int .i64 (.ofNat 8))), [0], none⟩⟩,
    ⟨false, ⟨(some 2), .mov (.t 18), [1, 0, 1], none⟩⟩] [] 393216))
  .skip))
 (.seq (.region [⟨true, ⟨(some 19), .mov (.t 2), [], none⟩⟩,
   ⟨true, ⟨(some 20), .mov (.t 0), [], none⟩⟩,
   ⟨true, ⟨(some 21), .conv .u8 (.t 20), [1], none⟩⟩,
   ⟨true, ⟨(some 22), .index none (.c (.str [0, 1, 2, 2, 3, 3, 3, 3, 4, 4, 4, 4, 4, 4, 4, 4, 5, 5, 5, 5, 5, 5, 5, 5, 5, 5, 5, 5, 5, 5, 5, 5, 6, 6, 6, 6, 6, 6, 6, 6, 6, 6, 6, 6, 6, 6, 6, 6, 6, 6, 6, 6, 6, 6, 6, 6, 6, 6, 6, 6, 6, 6, 6, 6, 7, 7, 7, 7, 7, 7, 7, 7, 7, 7, 7, 7, 7, 7, 7, 7, 7, 7, 7, 7, 7, 7, 7, 7, 7, 7, 7, 7, 7, 7, 7, 7, 7, 7, 7, 7, 7, 7, 7, 7, 7, 7, 7, 7, 7, 7, 7, 7, 7, 7, 7, 7, 7, 7, 7, 7, 7, 7, 7, 7, 7, 7, 7, 7, 8, 8, 8, 8, 8, 8, 8, 8, 8, 8, 8, 8, 8, 8, 8, 8, 8, 8, 8, 8, 8, 8, 8, 8, 8, 8, 8, 8, 8, 8, 8, 8, 8, 8, 8, 8, 8, 8, 8, 8, 8, 8, 8, 8, 8, 8, 8, 8, 8, 8, 8, 8, 8, 8, 8, 8, 8, 8, 8, 8, 8, 8, 8, 8, 8, 8, 8, 8, 8, 8, 8, 8, 8, 8, 8, 8, 8, 8, 8, 8, 8, 8, 8, 8, 8, 8, 8, 8, 8, 8, 8, 8, 8, 8, 8, 8, 8, 8, 8, 8, 8, 8, 8, 8, 8, 8, 8, 8, 8, 8, 8, 8, 8, 8, 8, 8, 8, 8, 8, 8, 8, 8, 8, 8, 8, 8, 8, 8])) (.t 21), [2], none⟩⟩,
   ⟨true, ⟨(some 23), .conv .i64 (.t 22), [3], none⟩⟩,
   ⟨true, ⟨(some 24), .bin .add (.t 19) (.t 23), [0, 4], none⟩⟩,
   ⟨false, ⟨(some 2), .mov (.t 24), [5, 0, 1, 2, 3, 4, 5], none⟩⟩] [] 33046529)
 .ret)))))⟩
def f205 : FFn := ⟨54, [.tmp 4],
 (.seq (.region [⟨true, ⟨(some 4), .mov (.c (.str [])), [], none⟩⟩] [] 16)
 (.seq (.seq (.region [⟨true, ⟨(some 10), .mov (.t 1), [], none⟩⟩,
   ⟨true, ⟨(some 11), .bin .eql (.t 10) (.c (.int .i64 (.ofNat 10))), [0], none⟩⟩] [] 1024)
 (.cond (.t 11)
  (.seq (.seq (.region [⟨true, ⟨(some 12), .mov (.t 0), [], none⟩⟩,
    ⟨true, ⟨(some 13), .bin .leq (.c (.int .i64 (.ofNat 0))) (.t 12), [0], none⟩⟩,
    ⟨true, ⟨(some 14), .mov (.t 13), [1], none⟩⟩,
    ⟨true, ⟨(some 15), .mov (.t 0), [2], (some (14, true))⟩⟩,
    ⟨true, ⟨(some 16), .bin .lss (.t 15) (.c (.int .i64 (.ofNat 100))), [3, 2], (some (14, true))⟩⟩,
    ⟨true, ⟨(some 17), .pick (.t 14) (.t 16) (.c (.bool false)), [2, 4], none⟩⟩] [] 129026)
  (.cond (.t 17)
   (.seq (.region [⟨true, ⟨(some 18), .mov (.t 0), [], none⟩⟩,
     ⟨true, ⟨(some 19), .call .heap (.f 252) [(.t 18)], [0], none⟩⟩,
     ⟨true, ⟨(some 4), .mov (.t 19), [1, 1, 0, 1], none⟩⟩] [] 917505)
   .ret)
   .skip))
  (.seq (.region [⟨true, ⟨(some 5), .alloc .dyn (.agg [(.int .u8 (.ofNat 0)), (.int .u8 (.ofNat 0)), (.int .u8 (.ofNat 0)), (.int .u8 (.ofNat 0)), (.int .u8 (.ofNat 0)), (.int .u8 (.ofNat 0)), (.int .u8 (.ofNat 0)), (.int .u8 (.ofNat 0)), (.int .u8 (.ofNat 0)), (.int .u8 (.ofNat 0)), (.int .u8 (.ofNat 0)), (.int .u8 (.ofNat 0)), (.int .u8 (.ofNat 0)), (.int .u8 (.ofNat 0)), (.int .u8 (.ofNat 0)), (.int .u8 (.ofNat 0)), (.int .u8 (.ofNat 0)), (.int .u8 (.ofNat 0)), (.int .u8 (.ofNat 0)), (.int .u8 (.ofNat 0)), (.int .u8 (.ofNat 0)), (.int .u8 (.ofNat 0)), (.int .u8 (.ofNat 0)), (.int .u8 (.ofNat 0))]), [], none⟩⟩] [] 131088)
  (.seq (.region [⟨true, ⟨(some 20), .mov (.t 0), [], none⟩⟩,
    ⟨true, ⟨(some 21), .conv .u64 (.t 20), [0], none⟩⟩,
    ⟨true, ⟨(some 6), .mov (.t 21), [1, 0, 1], none⟩⟩] [] 3145728)
  (.seq (.seq (.region [⟨true, ⟨(some 22), .mov (.t 0), [], none⟩⟩,
    ⟨true, ⟨(some 23), .bin .lss (.t 22) (.c (.int .i64 (.ofNat 0))), [0], none⟩⟩] [] 4194304)
  (.cond (.t 23)
   (.region [⟨true, ⟨(some 24), .mov (.t 6), [], none⟩⟩,
     ⟨true, ⟨(some 25), .un .neg (.t 24), [0], none⟩⟩,
     ⟨false, ⟨(some 6), .mov (.t 25), [1, 0, 1], none⟩⟩] [] 58720256)
   .skip))
  (.seq (.region [⟨true, ⟨(some 26), .mov (.t 6), [], none⟩⟩,
    ⟨true, ⟨(some 27), .call .heap (.f 253) [(.t 26)], [0], none⟩⟩,
    ⟨true, ⟨(some 7), .mov (.t 27), [1, 1, 0, 1], none⟩⟩] [] 209715200)
  (.seq (.region [⟨true, ⟨(some 28), .mov (.t 7), [], none⟩⟩,
    ⟨true, ⟨(some 29), .bin .add (.c (.int .i64 (.ofNat 1))) (.t 28), [0], none⟩⟩,
    ⟨true, ⟨(some 30), .bad, [1], none⟩⟩,
    ⟨true, ⟨(some 31), .mov (.t 6), [], none⟩⟩,
    ⟨true, ⟨(some 32), .call .heap (.f 254) [(.t 30), (.t 31)], [2, 3], none⟩⟩] [] 8321499200)
  (.seq (.seq (.region [⟨true, ⟨(some 33), .mov (.t 0), [], none⟩⟩,
    ⟨true, ⟨(some 34), .bin .lss (.t 33) (.c (.int .i64 (.ofNat 0))), [0], none⟩⟩] [] 8589934593)
  (.cond (.t 34)
   (.seq (.region [⟨true, ⟨(some 35), .iaddr (some 24) 1 (.t 5) (.c (.int .i64 (.ofNat 0))), [], none⟩⟩,
     ⟨false, ⟨none, .store 1 (.t 35) (.c (.int .u8 (.ofNat 45))), [0], none⟩⟩] [] 51539607584)
   (.seq (.region [⟨true, ⟨(some 36), .mov (.t 7), [], none⟩⟩,
     ⟨true, ⟨(some 37), .bin .add (.c (.int .i64 (.ofNat 1))) (.t 36), [0], none⟩⟩,
     ⟨true, ⟨(some 38), .bad, [1], none⟩⟩,
     ⟨true, ⟨(some 39), .convB (.t 38), [2], none⟩⟩,
     ⟨true, ⟨(some 4), .mov (.t 39), [3, 0, 1, 2, 3], none⟩⟩] [] 1030792151168)
   .ret))
   .skip))
  (.seq (.region [⟨true, ⟨(some 40), .mov (.t 7), [], none⟩⟩,
    ⟨true, ⟨(some 41), .bin .add (.c (.int .i64 (.ofNat 1))) (.t 40), [0], none⟩⟩,
    ⟨true, ⟨(some 42), .bad, [1], none⟩⟩,
    ⟨true, ⟨(some 43), .convB (.t 42), [2], none⟩⟩,
    ⟨false, ⟨(some 4), .mov (.t 43), [3, 0, 1, 2, 3], none⟩⟩] [] 16509854285984)
  .ret))))))))
  .skip))
 (.seq (.region [⟨true, ⟨(some 45), .mov (.t 0), [], none⟩⟩,
   ⟨true, ⟨(some 46), .conv .u64 (.t 45), [0], none⟩⟩,
   ⟨true, ⟨(some 47), .mov (.t 1), [], none⟩⟩,
   ⟨true, ⟨(some 48), .mov (.t 0), [], none⟩⟩,
   ⟨true, ⟨(some 49), .bin .lss (.t 48) (.c (.int .i64 (.ofNat 0))), [3], none⟩⟩,
   ⟨true, ⟨(some 50), .call .heap (.f 255) [(.c .nilsl), (.t 46), (.t 47), (.t 49), (.c (.bool false))], [1, 2, 4], none⟩⟩,
   ⟨true, ⟨(some 44), .mov (.t 50), [5], none⟩⟩,
   ⟨true, ⟨(some 51), .extract 0 (.t 44), [6], none⟩⟩,
   ⟨true, ⟨(some 52), .extract 1 (.t 44), [6], none⟩⟩,
   ⟨true, ⟨(some 8), .mov (.t 51), [7, 5, 0, 1, 2, 3, 4, 5, 6, 7], none⟩⟩,
   ⟨true, ⟨(some 9), .mov (.t 52), [8, 9, 0, 1, 2, 3, 4, 5, 6, 7, 8, 9], none⟩⟩] [] 8989607068698899)
 (.seq (.region [⟨true, ⟨(some 53), .mov (.t 9), [], none⟩⟩,
   ⟨true, ⟨(some 4), .mov (.t 53), [0, 0], none⟩⟩] [] 9007199254741504)
 .ret))))⟩
def f206 : FFn := ⟨49, [],
 (.seq (.region [⟨true, ⟨(some 8), .mov (.t 1), [], none⟩⟩,
   ⟨true, ⟨(some 9), .bin .add (.t 8) (.c (.int .i64 (.ofNat 1))), [0], none⟩⟩,
   ⟨true, ⟨(some 6), .mov (.t 9), [1, 0, 1], none⟩⟩] [] 768)
 (.block 0 (.loop (.seq (.seq (.region [⟨true, ⟨(some 10), .mov (.t 6), [], none⟩⟩,
   ⟨true, ⟨(some 11), .mov (.t 2), [], none⟩⟩,
   ⟨true, ⟨(some 12), .bin .lss (.t 10) (.t 11), [0, 1], none⟩⟩] [] 3072)
 (.cond (.t 12)
  .skip
  (.exit 0)))
 (.seq (.block 1 (.seq (.region [⟨true, ⟨(some 15), .mov (.t 6), [], none⟩⟩,
   ⟨true, ⟨(some 7), .mov (.t 15), [0, 0], none⟩⟩] [] 36864)
 (.block 2 (.loop (.seq (.seq (.region [⟨true, ⟨(some 16), .mov (.t 7), [], none⟩⟩,
   ⟨true, ⟨(some 17), .mov (.t 1), [], none⟩⟩,
   ⟨true, ⟨(some 18), .bin .gtr (.t 16) (.t 17), [0, 1], none⟩⟩,
   ⟨true, ⟨(some 19), .mov (.t 18), [2], none⟩⟩,
   ⟨false, ⟨(some 20), .mov (.t 0), [3], (some (19, true))⟩⟩,
   ⟨false, ⟨(some 21), .mov (.t 7), [3], (some (19, true))⟩⟩,
   ⟨false, ⟨(some 22), .iaddr none 1 (.t 20) (.t 21), [4, 5, 3], (some (19, true))⟩⟩,
   ⟨false, ⟨(some 23), .load none (.t 22), [6, 3], (some (19, true))⟩⟩,
   ⟨false, ⟨(some 24), .mov (.t 0), [3], (some (19, true))⟩⟩,
   ⟨false, ⟨(some 25), .mov (.t 7), [3], (some (19, true))⟩⟩,
   ⟨false, ⟨(some 26), .bin .sub (.t 25) (.c (.int .i64 (.ofNat 1))), [9, 3], (some (19, true))⟩⟩,
   ⟨false, ⟨(some 27), .iaddr none 1 (.t 24) (.t 26), [8, 10, 3], (some (19, true))⟩⟩,
   ⟨false, ⟨(some 28), .load none (.t 27), [11, 3], (some (19, true))⟩⟩,
   ⟨false, ⟨(some 29), .call .heap (.f 212) [(.t 23), (.t 28)], [7, 12, 3, 3], (some (19, true))⟩⟩,
   ⟨true, ⟨(some 30), .pick (.t 19) (.t 29) (.c (.bool false)), [3, 13], none⟩⟩] [] 983040)
 (.cond (.t 30)
  .skip
  (.exit 2)))
 (.seq (.block 3 (.region [⟨true, ⟨(some 33), .mov (.t 0), [], none⟩⟩,
   ⟨true, ⟨(some 34), .mov (.t 7), [], none⟩⟩,
   ⟨true, ⟨(some 35), .mov (.t 0), [], none⟩⟩,
   ⟨true, ⟨(some 36), .mov (.t 7), [], none⟩⟩,
   ⟨true, ⟨(some 37), .bin .sub (.t 36) (.c (.int .i64 (.ofNat 1))), [3], none⟩⟩,
   ⟨true, ⟨(some 38), .mov (.t 0), [], none⟩⟩,
   ⟨true, ⟨(some 39), .mov (.t 7), [], none⟩⟩,
   ⟨true, ⟨(some 40), .bin .sub (.t 39) (.c (.int .i64 (.ofNat 1))), [6], none⟩⟩,
   ⟨true, ⟨(some 41), .iaddr none 1 (.t 38) (.t 40), [5, 7], none⟩⟩,
   ⟨true, ⟨(some 42), .load none (.t 41), [8], none⟩⟩,
   ⟨true, ⟨(some 43), .mov (.t 0), [], none⟩⟩,
   ⟨true, ⟨(some 44), .mov (.t 7), [], none⟩⟩,
   ⟨true, ⟨(some 45), .iaddr none 1 (.t 43) (.t 44), [10, 11], none⟩⟩,
   ⟨true, ⟨(some 46), .load none (.t 45), [12], none⟩⟩,
   ⟨true, ⟨(some 47), .iaddr none 1 (.t 33) (.t 34), [0, 1, 0, 1, 5, 6, 7, 8, 9, 13], none⟩⟩,
   ⟨false, ⟨none, .store 1 (.t 47) (.t 42), [14, 9, 0, 1, 5, 6, 7, 8, 9, 13], none⟩⟩,
   ⟨true, ⟨(some 48), .iaddr none 1 (.t 35) (.t 37), [2, 4, 0, 1, 2, 3, 4, 5, 6, 7, 8, 9, 10, 11, 12, 13, 14, 15], none⟩⟩,
   ⟨false, ⟨none, .store 1 (.t 48) (.t 46), [16, 13, 15, 0, 1, 2, 3, 4, 5, 6, 7, 8, 9, 10, 11, 12, 13, 14, 15], none⟩⟩] [] 562942437228544))
 (.region [⟨true, ⟨(some 31), .mov (.t 7), [], none⟩⟩,
   ⟨true, ⟨(some 32), .bin .sub (.t 31) (.c (.int .i64 (.ofNat 1))), [0], none⟩⟩,
   ⟨false, ⟨(some 7), .mov (.t 32), [1, 0, 1], none⟩⟩] [] 6442450944)))))))
 (.region [⟨true, ⟨(some 13), .mov (.t 6), [], none⟩⟩,
   ⟨true, ⟨(some 14), .bin .add (.t 13) (.c (.int .i64 (.ofNat 1))), [0], none⟩⟩,
   ⟨false, ⟨(some 6), .mov (.t 14), [1, 0, 1], none⟩⟩] [] 24704))))))⟩
def f207 : FFn := ⟨56, [],
 (.seq (.region [⟨true, ⟨(some 11), .mov (.t 1), [], none⟩⟩,
   ⟨true, ⟨(some 6), .mov (.t 11), [0, 0], none⟩⟩] [] 2048)
 (.seq (.region [⟨true, ⟨(some 7), .mov (.c (.int .i64 (.ofNat 0))), [], none⟩⟩] [] 0)
 (.seq (.region [⟨true, ⟨(some 12), .mov (.t 2), [], none⟩⟩,
   ⟨true, ⟨(some 13), .mov (.t 1), [], none⟩⟩,
   ⟨true, ⟨(some 14), .bin .sub (.t 12) (.t 13), [0, 1], none⟩⟩,
   ⟨true, ⟨(some 8), .mov (.t 14), [2, 0, 1, 2], none⟩⟩] [] 28678)
 (.seq (.seq (.region [⟨true, ⟨(some 15), .mov (.t 8), [], none⟩⟩,
   ⟨true, ⟨(some 16), .bin .sub (.t 15) (.c (.int .i64 (.ofNat 1))), [0], none⟩⟩,
   ⟨true, ⟨(some 17), .bin .quo (.t 16) (.c (.int .i64 (.ofNat 2))), [1], none⟩⟩,
   ⟨true, ⟨(some 9), .mov (.t 17), [2, 0, 1, 2], none⟩⟩] [] 229376)
 (.block 0 (.loop (.seq (.seq (.region [⟨true, ⟨(some 18), .mov (.t 9), [], none⟩⟩,
   ⟨true, ⟨(some 19), .bin .geq (.t 18) (.c (.int .i64 (.ofNat 0))), [0], none⟩⟩] [] 262144)
 (.cond (.t 19)
  .skip
  (.exit 0)))
 (.seq (.block 1 (.region [⟨true, ⟨(some 22), .mov (.t 0), [], none⟩⟩,
   ⟨true, ⟨(some 23), .mov (.t 9), [], none⟩⟩,
   ⟨true, ⟨(some 24), .mov (.t 8), [], none⟩⟩,
   ⟨true, ⟨(some 25), .mov (.t 6), [], none⟩⟩,
   ⟨true, ⟨(some 26), .call .heap (.f 256) [(.t 22), (.t 23), (.t 24), (.t 25)], [0, 1, 2, 3], none⟩⟩] [] 130547712))
 (.region [⟨true, ⟨(some 20), .mov (.t 9), [], none⟩⟩,
   ⟨true, ⟨(some 21), .bin .sub (.t 20) (.c (.int .i64 (.ofNat 1))), [0], none⟩⟩,
   ⟨false, ⟨(some 9), .mov (.t 21), [1, 0, 1], none⟩⟩] [] 3145728))))))
 (.seq (.region [⟨true, ⟨(some 27), .mov (.t 8), [], none⟩⟩,
   ⟨true, ⟨(some 28), .bin .sub (.t 27) (.c (.int .i64 (.ofNat 1))), [0], none⟩⟩,
   ⟨true, ⟨(some 10), .mov (.t 28), [1, 0, 1], none⟩⟩] [] 402653952)
 (.block 2 (.loop (.seq (.seq (.region [⟨true, ⟨(some 29), .mov (.t 10), [], none⟩⟩,
   ⟨true, ⟨(some 30), .bin .geq (.t 29) (.c (.int .i64 (.ofNat 0))), [0], none⟩⟩] [] 536870912)
 (.cond (.t 30)
  .skip
  (.exit 2)))
 (.seq (.block 3 (.seq (.region [⟨true, ⟨(some 33), .mov (.t 0), [], none⟩⟩,
   ⟨true, ⟨(some 34), .mov (.t 6), [], none⟩⟩,
   ⟨true, ⟨(some 35), .mov (.t 0), [], none⟩⟩,
   ⟨true, ⟨(some 36), .mov (.t 6), [], none⟩⟩,
   ⟨true, ⟨(some 37), .mov (.t 10), [], none⟩⟩,
   ⟨true, ⟨(some 38), .bin .add (.t 36) (.t 37), [3, 4], none⟩⟩,
   ⟨true, ⟨(some 39), .mov (.t 0), [], none⟩⟩,
   ⟨true, ⟨(some 40), .mov (.t 6), [], none⟩⟩,
   ⟨true, ⟨(some 41), .mov (.t 10), [], none⟩⟩,
   ⟨true, ⟨(some 42), .bin .add (.t 40) (.t 41), [7, 8], none⟩⟩,
   ⟨true, ⟨(some 43), .iaddr none 1 (.t 39) (.t 42), [6, 9], none⟩⟩,
   ⟨true, ⟨(some 44), .load none (.t 43), [10], none⟩⟩,
   ⟨true, ⟨(some 45), .mov (.t 0), [], none⟩⟩,
   ⟨true, ⟨(some 46), .mov (.t 6), [], none⟩⟩,
   ⟨true, ⟨(some 47), .iaddr none 1 (.t 45) (.t 46), [12, 13], none⟩⟩,
   ⟨true, ⟨(some 48), .load none (.t 47), [14], none⟩⟩,
   ⟨true, ⟨(some 49), .iaddr none 1 (.t 33) (.t 34), [0, 1, 0, 1, 6, 7, 8, 9, 10, 11, 15], none⟩⟩,
   ⟨false, ⟨none, .store 1 (.t 49) (.t 44), [16, 11, 0, 1, 6, 7, 8, 9, 10, 11, 15], none⟩⟩,
   ⟨true, ⟨(some 50), .iaddr none 1 (.t 35) (.t 38), [2, 5, 0, 1, 2, 3, 4, 5, 6, 7, 8, 9, 10, 11, 12, 13, 14, 15, 16, 17], none⟩⟩,
   ⟨false, ⟨none, .store 1 (.t 50) (.t 48), [18, 15, 17, 0, 1, 2, 3, 4, 5, 6, 7, 8, 9, 10, 11, 12, 13, 14, 15, 16, 17], none⟩⟩] [] 2251792297492480)
 (.region [⟨true, ⟨(some 51), .mov (.t 0), [], none⟩⟩,
   ⟨true, ⟨(some 52), .mov (.t 7), [], none⟩⟩,
   ⟨true, ⟨(some 53), .mov (.t 10), [], none⟩⟩,
   ⟨true, ⟨(some 54), .mov (.t 6), [], none⟩⟩,
   ⟨true, ⟨(some 55), .call .heap (.f 256) [(.t 51), (.t 52), (.t 53), (.t 54)], [0, 1, 2, 3], none⟩⟩] [] 69805794224242688)))
 (.region [⟨true, ⟨(some 31), .mov (.t 10), [], none⟩⟩,
   ⟨true, ⟨(some 32), .bin .sub (.t 31) (.c (.int .i64 (.ofNat 1))), [0], none⟩⟩,
   ⟨false, ⟨(some 10), .mov (.t 32), [1, 0, 1], none⟩⟩] [] 6442450944))))))))))⟩
def f208 : FFn := ⟨65, [],
 (.seq (.region [⟨true, ⟨(some 11), .mov (.t 2), [], none⟩⟩,
   ⟨true, ⟨(some 12), .mov (.t 1), [], none⟩⟩,
   ⟨true, ⟨(some 13), .bin .sub (.t 11) (.t 12), [0, 1], none⟩⟩,
   ⟨true, ⟨(some 6), .mov (.t 13), [2, 0, 1, 2], none⟩⟩] [] 14340)
 (.seq (.region [⟨true, ⟨(some 14), .mov (.t 6), [], none⟩⟩,
   ⟨true, ⟨(some 15), .bin .geq (.t 14) (.c (.int .i64 (.ofNat 8))), [0], none⟩⟩] [] 16384)
 (.cond (.t 15)
  (.seq (.region [⟨true, ⟨(some 16), .mov (.t 6), [], none⟩⟩,
    ⟨true, ⟨(some 17), .conv .u64 (.t 16), [0], none⟩⟩,
    ⟨true, ⟨(some 7), .alloc .dyn (.int .u64 (.ofNat 0)), [], none⟩⟩,
    ⟨false, ⟨none, .store 1 (.t 7) (.t 17), [2, 1, 0, 1, 2], none⟩⟩] [] 229376)
  (.seq (.region [⟨true, ⟨(some 18), .mov (.t 6), [], none⟩⟩,
    ⟨true, ⟨(some 19), .call .heap (.f 243) [(.t 18)], [0], none⟩⟩,
    ⟨true, ⟨(some 8), .mov (.t 19), [1, 1, 0, 1], none⟩⟩] [] 786432)
  (.seq (.region [⟨true, ⟨(some 20), .mov (.t 1), [], none⟩⟩,
    ⟨true, ⟨(some 21), .mov (.t 6), [], none⟩⟩,
    ⟨true, ⟨(some 22), .bin .quo (.t 21) (.c (.int .i64 (.ofNat 4))), [1], none⟩⟩,
    ⟨true, ⟨(some 23), .bin .mul (.t 22) (.c (.int .i64 (.ofNat 2))), [2], none⟩⟩,
    ⟨true, ⟨(some 24), .bin .add (.t 20) (.t 23), [0, 3], none⟩⟩,
    ⟨true, ⟨(some 25), .bin .sub (.t 24) (.c (.int .i64 (.ofNat 1))), [4], none⟩⟩,
    ⟨true, ⟨(some 9), .mov (.t 25), [5, 0, 1, 2, 3, 4, 5], none⟩⟩] [] 66060288)
  (.block 0 (.loop (.seq (.seq (.region [⟨true, ⟨(some 26), .mov (.t 9), [], none⟩⟩,
    ⟨true, ⟨(some 27), .mov (.t 1), [], none⟩⟩,
    ⟨true, ⟨(some 28), .mov (.t 6), [], none⟩⟩,
    ⟨true, ⟨(some 29), .bin .quo (.t 28) (.c (.int .i64 (.ofNat 4))), [2], none⟩⟩,
    ⟨true, ⟨(some 30), .bin .mul (.t 29) (.c (.int .i64 (.ofNat 2))), [3], none⟩⟩,
    ⟨true, ⟨(some 31), .bin .add (.t 27) (.t 30), [1, 4], none⟩⟩,
    ⟨true, ⟨(some 32), .bin .add (.t 31) (.c (.int .i64 (.ofNat 1))), [5], none⟩⟩,
    ⟨true, ⟨(some 33), .bin .leq (.t 26) (.t 32), [0, 6], none⟩⟩] [] 8522825728)
  (.cond (.t 33)
   .skip
   (.exit 0)))
  (.seq (.block 1 (.seq (.region [⟨true, ⟨(some 36), .call .heap (.f 244) [(.t 7)], [], none⟩⟩,
    ⟨true, ⟨(some 37), .mov (.t 8), [], none⟩⟩,
    ⟨true, ⟨(some 38), .bin .sub (.t 37) (.c (.int .u64 (.ofNat 1))), [1], none⟩⟩,
    ⟨true, ⟨(some 39), .bin .and (.t 36) (.t 38), [0, 2], none⟩⟩,
    ⟨true, ⟨(some 40), .conv .i64 (.t 39), [3], none⟩⟩,
    ⟨true, ⟨(some 10), .mov (.t 40), [4, 0, 0, 1, 2, 3, 4], none⟩⟩] [] 2138893713408)
  (.seq (.seq (.region [⟨true, ⟨(some 41), .mov (.t 10), [], none⟩⟩,
    ⟨true, ⟨(some 42), .mov (.t 6), [], none⟩⟩,
    ⟨true, ⟨(some 43), .bin .geq (.t 41) (.t 42), [0, 1], none⟩⟩] [] 6597069766656)
  (.cond (.t 43)
   (.region [⟨true, ⟨(some 44), .mov (.t 10), [], none⟩⟩,
     ⟨true, ⟨(some 45), .mov (.t 6), [], none⟩⟩,
     ⟨true, ⟨(some 46), .bin .sub (.t 44) (.t 45), [0, 1], none⟩⟩,
     ⟨false, ⟨(some 10), .mov (.t 46), [2, 0, 1, 2], none⟩⟩] [] 131941395333120)
   .skip))
  (.region [⟨true, ⟨(some 47), .mov (.t 0), [], none⟩⟩,
    ⟨true, ⟨(some 48), .mov (.t 9), [], none⟩⟩,
    ⟨true, ⟨(some 49), .mov (.t 0), [], none⟩⟩,
    ⟨true, ⟨(some 50), .mov (.t 1), [], none⟩⟩,
    ⟨true, ⟨(some 51), .mov (.t 10), [], none⟩⟩,
    ⟨true, ⟨(some 52), .bin .add (.t 50) (.t 51), [3, 4], none⟩⟩,
    ⟨true, ⟨(some 53), .mov (.t 0), [], none⟩⟩,
    ⟨true, ⟨(some 54), .mov (.t 1), [], none⟩⟩,
    ⟨true, ⟨(some 55), .mov (.t 10), [], none⟩⟩,
    ⟨true, ⟨(some 56), .bin .add (.t 54) (.t 55), [7, 8], none⟩⟩,
    ⟨true, ⟨(some 57), .iaddr none 1 (.t 53) (.t 56), [6, 9], none⟩⟩,
    ⟨true, ⟨(some 58), .load none (.t 57), [10], none⟩⟩,
    ⟨true, ⟨(some 59), .mov (.t 0), [], none⟩⟩,
    ⟨true, ⟨(some 60), .mov (.t 9), [], none⟩⟩,
    ⟨true, ⟨(some 61), .iaddr none 1 (.t 59) (.t 60), [12, 13], none⟩⟩,
    ⟨true, ⟨(some 62), .load none (.t 61), [14], none⟩⟩,
    ⟨true, ⟨(some 63), .iaddr none 1 (.t 47) (.t 48), [0, 1, 0, 1, 6, 7, 8, 9, 10, 11, 15], none⟩⟩,
    ⟨false, ⟨none, .store 1 (.t 63) (.t 58), [16, 11, 0, 1, 6, 7, 8, 9, 10, 11, 15], none⟩⟩,
    ⟨true, ⟨(some 64), .iaddr none 1 (.t 49) (.t 52), [2, 5, 0, 1, 2, 3, 4, 5, 6, 7, 8, 9, 10, 11, 12, 13, 14, 15, 16, 17], none⟩⟩,
    ⟨false, ⟨none, .store 1 (.t 64) (.t 62), [18, 15, 17, 0, 1, 2, 3, 4, 5, 6, 7, 8, 9, 10, 11, 12, 13, 14, 15, 16, 17], none⟩⟩] [] 36893356206023771136))))
  (.region [⟨true, ⟨(some 34), .mov (.t 9), [], none⟩⟩,
    ⟨true, ⟨(some 35), .bin .add (.t 34) (.c (.int .i64 (.ofNat 1))), [0], none⟩⟩,
    ⟨false, ⟨(some 9), .mov (.t 35), [1, 0, 1], none⟩⟩] [] 51539607552))))))))
  .skip)))⟩
def f209 : FFn := ⟨57, [.tmp 6, .tmp 7],
 (.seq (.region [⟨true, ⟨(some 6), .mov (.c (.int .i64 (.ofNat 0))), [], none⟩⟩,
   ⟨true, ⟨(some 7), .mov (.c (.int .i64 (.ofNat 0))), [0], none⟩⟩] [] 192)
 (.seq (.region [⟨true, ⟨(some 13), .mov (.t 2), [], none⟩⟩,
   ⟨true, ⟨(some 14), .mov (.t 1), [], none⟩⟩,
   ⟨true, ⟨(some 15), .bin .sub (.t 13) (.t 14), [0, 1], none⟩⟩,
   ⟨true, ⟨(some 8), .mov (.t 15), [2, 0, 1, 2], none⟩⟩] [] 57348)
 (.seq (.region [⟨true, ⟨(some 9), .alloc .dyn (.int .i64 (.ofNat 0)), [], none⟩⟩] [] 0)
 (.seq (.region [⟨true, ⟨(some 16), .mov (.t 1), [], none⟩⟩,
   ⟨true, ⟨(some 17), .mov (.t 8), [], none⟩⟩,
   ⟨true, ⟨(some 18), .bin .quo (.t 17) (.c (.int .i64 (.ofNat 4))), [1], none⟩⟩,
   ⟨true, ⟨(some 19), .bin .mul (.t 18) (.c (.int .i64 (.ofNat 1))), [2], none⟩⟩,
   ⟨true, ⟨(some 20), .bin .add (.t 16) (.t 19), [0, 3], none⟩⟩,
   ⟨true, ⟨(some 10), .mov (.t 20), [4, 0, 1, 2, 3, 4], none⟩⟩] [] 2031616)
 (.seq (.region [⟨true, ⟨(some 21), .mov (.t 1), [], none⟩⟩,
   ⟨true, ⟨(some 22), .mov (.t 8), [], none⟩⟩,
   ⟨true, ⟨(some 23), .bin .quo (.t 22) (.c (.int .i64 (.ofNat 4))), [1], none⟩⟩,
   ⟨true, ⟨(some 24), .bin .mul (.t 23) (.c (.int .i64 (.ofNat 2))), [2], none⟩⟩,
   ⟨true, ⟨(some 25), .bin .add (.t 21) (.t 24), [0, 3], none⟩⟩,
   ⟨true, ⟨(some 11), .mov (.t 25), [4, 0, 1, 2, 3, 4], none⟩⟩] [] 65011712)
 (.seq (.region [⟨true, ⟨(some 26), .mov (.t 1), [], none⟩⟩,
   ⟨true, ⟨(some 27), .mov (.t 8), [], none⟩⟩,
   ⟨true, ⟨(some 28), .bin .quo (.t 27) (.c (.int .i64 (.ofNat 4))), [1], none⟩⟩,
   ⟨true, ⟨(some 29), .bin .mul (.t 28) (.c (.int .i64 (.ofNat 3))), [2], none⟩⟩,
   ⟨true, ⟨(some 30), .bin .add (.t 26) (.t 29), [0, 3], none⟩⟩,
   ⟨true, ⟨(some 12), .mov (.t 30), [4, 0, 1, 2, 3, 4], none⟩⟩] [] 2080374786)
 (.seq (.seq (.region [⟨true, ⟨(some 31), .mov (.t 8), [], none⟩⟩,
   ⟨true, ⟨(some 32), .bin .geq (.t 31) (.c (.int .i64 (.ofNat 8))), [0], none⟩⟩] [] 2147483648)
 (.cond (.t 32)
  (.seq (.seq (.region [⟨true, ⟨(some 33), .mov (.t 8), [], none⟩⟩,
    ⟨true, ⟨(some 34), .bin .geq (.t 33) (.c (.int .i64 (.ofNat 50))), [0], none⟩⟩] [] 12884902144)
  (.cond (.t 34)
   (.seq (.region [⟨true, ⟨(some 35), .mov (.t 0), [], none⟩⟩,
     ⟨true, ⟨(some 36), .mov (.t 10), [], none⟩⟩,
     ⟨true, ⟨(some 37), .call .heap (.f 257) [(.t 35), (.t 36), (.t 9)], [0, 1], none⟩⟩,
     ⟨false, ⟨(some 10), .mov (.t 37), [2, 2, 0, 1, 2], none⟩⟩] [] 257698037760)
   (.seq (.region [⟨true, ⟨(some 38), .mov (.t 0), [], none⟩⟩,
     ⟨true, ⟨(some 39), .mov (.t 11), [], none⟩⟩,
     ⟨true, ⟨(some 40), .call .heap (.f 257) [(.t 38), (.t 39), (.t 9)], [0, 1], none⟩⟩,
     ⟨false, ⟨(some 11), .mov (.t 40), [2, 2, 0, 1, 2], none⟩⟩] [] 1924145348608)
   (.region [⟨true, ⟨(some 41), .mov (.t 0), [], none⟩⟩,
     ⟨true, ⟨(some 42), .mov (.t 12), [], none⟩⟩,
     ⟨true, ⟨(some 43), .call .heap (.f 257) [(.t 41), (.t 42), (.t 9)], [0, 1], none⟩⟩,
     ⟨false, ⟨(some 12), .mov (.t 43), [2, 2, 0, 1, 2], none⟩⟩] [] 15393162788864)))
   .skip))
  (.region [⟨true, ⟨(some 44), .mov (.t 0), [], none⟩⟩,
    ⟨true, ⟨(some 45), .mov (.t 10), [], none⟩⟩,
    ⟨true, ⟨(some 46), .mov (.t 11), [], none⟩⟩,
    ⟨true, ⟨(some 47), .mov (.t 12), [], none⟩⟩,
    ⟨true, ⟨(some 48), .call .heap (.f 258) [(.t 44), (.t 45), (.t 46), (.t 47), (.t 9)], [0, 1, 2, 3], none⟩⟩,
    ⟨false, ⟨(some 11), .mov (.t 48), [4, 4, 0, 1, 2, 3, 4], none⟩⟩] [] 545374947251201))
  .skip))
 (.seq (.region [⟨true, ⟨(some 49), .load none (.t 9), [], none⟩⟩] [] 4294973185)
 (.block 0 (.seq (.region [⟨true, ⟨(some 52), .bin .eql (.t 49) (.c (.int .i64 (.ofNat 0))), [], none⟩⟩,
   ⟨true, ⟨(some 51), .mov (.t 52), [0], none⟩⟩] [] 4503599627370496)
 (.cond (.t 51)
  (.seq (.region [⟨true, ⟨(some 53), .mov (.t 11), [], none⟩⟩,
    ⟨true, ⟨(some 6), .mov (.t 53), [0, 0], none⟩⟩,
    ⟨true, ⟨(some 7), .mov (.c (.int .i64 (.ofNat 1))), [1, 0, 1], none⟩⟩] [] 11821949021849600)
  .ret)
  (.seq (.region [⟨true, ⟨(some 55), .bin .eql (.t 49) (.c (.int .i64 (.ofNat 12))), [], none⟩⟩,
    ⟨true, ⟨(some 54), .mov (.t 55), [0], none⟩⟩] [] 38843546786070528)
  (.cond (.t 54)
   (.seq (.region [⟨true, ⟨(some 56), .mov (.t 11), [], none⟩⟩,
     ⟨true, ⟨(some 6), .mov (.t 56), [0, 0], none⟩⟩,
     ⟨true, ⟨(some 7), .mov (.c (.int .i64 (.ofNat 2))), [1, 0, 1], none⟩⟩] [] 90071992547411968)
   .ret)
   (.seq (.region [⟨true, ⟨(some 50), .mov (.t 11), [], none⟩⟩,
     ⟨true, ⟨(some 6), .mov (.t 50), [0, 0], none⟩⟩,
     ⟨true, ⟨(some 7), .mov (.c (.int .i64 (.ofNat 0))), [1, 0, 1], none⟩⟩] [] 19140298416326656)
   .ret))))))))))))))⟩
def f210 : FFn := ⟨32, [],
 (.seq (.region [⟨true, ⟨(some 8), .mov (.t 1), [], none⟩⟩,
   ⟨true, ⟨(some 6), .mov (.t 8), [0, 0], none⟩⟩] [] 258)
 (.seq (.region [⟨true, ⟨(some 9), .mov (.t 2), [], none⟩⟩,
   ⟨true, ⟨(some 10), .bin .sub (.t 9) (.c (.int .i64 (.ofNat 1))), [0], none⟩⟩,
   ⟨true, ⟨(some 7), .mov (.t 10), [1, 0, 1], none⟩⟩] [] 1540)
 (.block 0 (.loop (.seq (.seq (.region [⟨true, ⟨(some 11), .mov (.t 6), [], none⟩⟩,
   ⟨true, ⟨(some 12), .mov (.t 7), [], none⟩⟩,
   ⟨true, ⟨(some 13), .bin .lss (.t 11) (.t 12), [0, 1], none⟩⟩] [] 6144)
 (.cond (.t 13)
  .skip
  (.exit 0)))
 (.block 1 (.seq (.region [⟨true, ⟨(some 14), .mov (.t 0), [], none⟩⟩,
   ⟨true, ⟨(some 15), .mov (.t 6), [], none⟩⟩,
   ⟨true, ⟨(some 16), .mov (.t 0), [], none⟩⟩,
   ⟨true, ⟨(some 17), .mov (.t 7), [], none⟩⟩,
   ⟨true, ⟨(some 18), .mov (.t 0), [], none⟩⟩,
   ⟨true, ⟨(some 19), .mov (.t 7), [], none⟩⟩,
   ⟨true, ⟨(some 20), .iaddr none 1 (.t 18) (.t 19), [4, 5], none⟩⟩,
   ⟨true, ⟨(some 21), .load none (.t 20), [6], none⟩⟩,
   ⟨true, ⟨(some 22), .mov (.t 0), [], none⟩⟩,
   ⟨true, ⟨(some 23), .mov (.t 6), [], none⟩⟩,
   ⟨true, ⟨(some 24), .iaddr none 1 (.t 22) (.t 23), [8, 9], none⟩⟩,
   ⟨true, ⟨(some 25), .load none (.t 24), [10], none⟩⟩,
   ⟨true, ⟨(some 26), .iaddr none 1 (.t 14) (.t 15), [0, 1, 0, 1, 4, 5, 6, 7, 11], none⟩⟩,
   ⟨false, ⟨none, .store 1 (.t 26) (.t 21), [12, 7, 0, 1, 4, 5, 6, 7, 11], none⟩⟩,
   ⟨true, ⟨(some 27), .iaddr none 1 (.t 16) (.t 17), [2, 3, 0, 1, 2, 3, 4, 5, 6, 7, 8, 9, 10, 11, 12, 13], none⟩⟩,
   ⟨false, ⟨none, .store 1 (.t 27) (.t 25), [14, 11, 13, 0, 1, 2, 3, 4, 5, 6, 7, 8, 9, 10, 11, 12, 13], none⟩⟩] [] 268427264)
 (.seq (.region [⟨true, ⟨(some 28), .mov (.t 6), [], none⟩⟩,
   ⟨true, ⟨(some 29), .bin .add (.t 28) (.c (.int .i64 (.ofNat 1))), [0], none⟩⟩,
   ⟨false, ⟨(some 6), .mov (.t 29), [1, 0, 1], none⟩⟩] [] 805306368)
 (.region [⟨true, ⟨(some 30), .mov (.t 7), [], none⟩⟩,
   ⟨true, ⟨(some 31), .bin .sub (.t 30) (.c (.int .i64 (.ofNat 1))), [0], none⟩⟩,
   ⟨false, ⟨(some 7), .mov (.t 31), [1, 0, 1], none⟩⟩] [] 3221225472)))))))))⟩
def f211 : FFn := ⟨133, [.tmp 6],
 (.seq (.region [⟨true, ⟨(some 6), .mov (.c (.bool false)), [], none⟩⟩] [] 64)
 (.seq (.region [⟨true, ⟨(some 11), .mov (.t 1), [], none⟩⟩,
   ⟨true, ⟨(some 12), .bin .add (.t 11) (.c (.int .i64 (.ofNat 1))), [0], none⟩⟩,
   ⟨true, ⟨(some 7), .mov (.t 12), [1, 0, 1], none⟩⟩] [] 6144)
 (.seq (.seq (.region [⟨true, ⟨(some 8), .mov (.c (.int .i64 (.ofNat 0))), [], none⟩⟩] [] 0)
 (.block 0 (.loop (.seq (.seq (.region [⟨true, ⟨(some 13), .mov (.t 8), [], none⟩⟩,
   ⟨true, ⟨(some 14), .bin .lss (.t 13) (.c (.int .i64 (.ofNat 5))), [0], none⟩⟩] [] 8192)
 (.cond (.t 14)
  .skip
  (.exit 0)))
 (.seq (.block 1 (.seq (.block 2 (.loop (.seq (.seq (.region [⟨true, ⟨(some 17), .mov (.t 7), [], none⟩⟩,
   ⟨true, ⟨(some 18), .mov (.t 2), [], none⟩⟩,
   ⟨true, ⟨(some 19), .bin .lss (.t 17) (.t 18), [0, 1], none⟩⟩,
   ⟨true, ⟨(some 20), .mov (.t 19), [2], none⟩⟩,
   ⟨false, ⟨(some 21), .mov (.t 0), [3], (some (20, true))⟩⟩,
   ⟨false, ⟨(some 22), .mov (.t 7), [3], (some (20, true))⟩⟩,
   ⟨false, ⟨(some 23), .iaddr none 1 (.t 21) (.t 22), [4, 5, 3], (some (20, true))⟩⟩,
   ⟨false, ⟨(some 24), .load none (.t 23), [6, 3], (some (20, true))⟩⟩,
   ⟨false, ⟨(some 25), .mov (.t 0), [3], (some (20, true))⟩⟩,
   ⟨false, ⟨(some 26), .mov (.t 7), [3], (some (20, true))⟩⟩,
   ⟨false, ⟨(some 27), .bin .sub (.t 26) (.c (.int .i64 (.ofNat 1))), [9, 3], (some (20, true))⟩⟩,
   ⟨false, ⟨(some 28), .iaddr none 1 (.t 25) (.t 27), [8, 10, 3], (some (20, true))⟩⟩,
   ⟨false, ⟨(some 29), .load none (.t 28), [11, 3], (some (20, true))⟩⟩,
   ⟨false, ⟨(some 30), .call .heap (.f 212) [(.t 24), (.t 29)], [7, 12, 3, 3], (some (20, true))⟩⟩,
   ⟨false, ⟨(some 31), .un .not (.t 30), [13, 3], (some (20, true))⟩⟩,
   ⟨true, ⟨(some 32), .pick (.t 20) (.t 31) (.c (.bool false)), [3, 14], none⟩⟩] [] 1982464)
 (.cond (.t 32)
  .skip
  (.exit 2)))
 (.block 3 (.region [⟨true, ⟨(some 33), .mov (.t 7), [], none⟩⟩,
   ⟨true, ⟨(some 34), .bin .add (.t 33) (.c (.int .i64 (.ofNat 1))), [0], none⟩⟩,
   ⟨false, ⟨(some 7), .mov (.t 34), [1, 0, 1], none⟩⟩] [] 30064771072)))))
 (.seq (.seq (.region [⟨true, ⟨(some 35), .mov (.t 7), [], none⟩⟩,
   ⟨true, ⟨(some 36), .mov (.t 2), [], none⟩⟩,
   ⟨true, ⟨(some 37), .bin .eql (.t 35) (.t 36), [0, 1], none⟩⟩] [] 103079231488)
 (.cond (.t 37)
  (.seq (.region [⟨true, ⟨(some 6), .mov (.c (.bool true)), [], none⟩⟩] [] 141731824007)
  .ret)
  .skip))
 (.seq (.seq (.region [⟨true, ⟨(some 38), .mov (.t 2), [], none⟩⟩,
   ⟨true, ⟨(some 39), .mov (.t 1), [], none⟩⟩,
   ⟨true, ⟨(some 40), .bin .sub (.t 38) (.t 39), [0, 1], none⟩⟩,
   ⟨true, ⟨(some 41), .bin .lss (.t 40) (.c (.int .i64 (.ofNat 50))), [2], none⟩⟩] [] 2061584302144)
 (.cond (.t 41)
  (.seq (.region [⟨true, ⟨(some 6), .mov (.c (.bool false)), [], none⟩⟩] [] 2203316126087)
  .ret)
  .skip))
 (.seq (.region [⟨true, ⟨(some 42), .mov (.t 0), [], none⟩⟩,
   ⟨true, ⟨(some 43), .mov (.t 7), [], none⟩⟩,
   ⟨true, ⟨(some 44), .mov (.t 0), [], none⟩⟩,
   ⟨true, ⟨(some 45), .mov (.t 7), [], none⟩⟩,
   ⟨true, ⟨(some 46), .bin .sub (.t 45) (.c (.int .i64 (.ofNat 1))), [3], none⟩⟩,
   ⟨true, ⟨(some 47), .mov (.t 0), [], none⟩⟩,
   ⟨true, ⟨(some 48), .mov (.t 7), [], none⟩⟩,
   ⟨true, ⟨(some 49), .bin .sub (.t 48) (.c (.int .i64 (.ofNat 1))), [6], none⟩⟩,
   ⟨true, ⟨(some 50), .iaddr none 1 (.t 47) (.t 49), [5, 7], none⟩⟩,
   ⟨true, ⟨(some 51), .load none (.t 50), [8], none⟩⟩,
   ⟨true, ⟨(some 52), .mov (.t 0), [], none⟩⟩,
   ⟨true, ⟨(some 53), .mov (.t 7), [], none⟩⟩,
   ⟨true, ⟨(some 54), .iaddr none 1 (.t 52) (.t 53), [10, 11], none⟩⟩,
   ⟨true, ⟨(some 55), .load none (.t 54), [12], none⟩⟩,
   ⟨true, ⟨(some 56), .iaddr none 1 (.t 42) (.t 43), [0, 1, 0, 1, 5, 6, 7, 8, 9, 13], none⟩⟩,
   ⟨false, ⟨none, .store 1 (.t 56) (.t 51), [14, 9, 0, 1, 5, 6, 7, 8, 9, 13], none⟩⟩,
   ⟨true, ⟨(some 57), .iaddr none 1 (.t 44) (.t 46), [2, 4, 0, 1, 2, 3, 4, 5, 6, 7, 8, 9, 10, 11, 12, 13, 14, 15], none⟩⟩,
   ⟨false, ⟨none, .store 1 (.t 57) (.t 55), [16, 13, 15, 0, 1, 2, 3, 4, 5, 6, 7, 8, 9, 10, 11, 12, 13, 14, 15], none⟩⟩] [] 288228177128456256)
 (.seq (.seq (.region [⟨true, ⟨(some 58), .mov (.t 7), [], none⟩⟩,
   ⟨true, ⟨(some 59), .mov (.t 1), [], none⟩⟩,
   ⟨true, ⟨(some 60), .bin .sub (.t 58) (.t 59), [0, 1], none⟩⟩,
   ⟨true, ⟨(some 61), .bin .geq (.t 60) (.c (.int .i64 (.ofNat 2))), [2], none⟩⟩] [] 2017612633061982208)
 (.cond (.t 61)
  (.seq (.region [⟨true, ⟨(some 62), .mov (.t 7), [], none⟩⟩,
    ⟨true, ⟨(some 63), .bin .sub (.t 62) (.c (.int .i64 (.ofNat 1))), [0], none⟩⟩,
    ⟨true, ⟨(some 9), .mov (.t 63), [1, 0, 1], none⟩⟩] [] 16140901064495857664)
  (.block 4 (.loop (.seq (.seq (.region [⟨true, ⟨(some 64), .mov (.t 9), [], none⟩⟩,
    ⟨true, ⟨(some 65), .bin .geq (.t 64) (.c (.int .i64 (.ofNat 1))), [0], none⟩⟩] [] 18446744073709551616)
  (.cond (.t 65)
   .skip
   (.exit 4)))
  (.seq (.block 5 (.seq (.seq (.region [⟨true, ⟨(some 68), .mov (.t 0), [], none⟩⟩,
    ⟨true, ⟨(some 69), .mov (.t 9), [], none⟩⟩,
    ⟨true, ⟨(some 70), .iaddr none 1 (.t 68) (.t 69), [0, 1], none⟩⟩,
    ⟨true, ⟨(some 71), .load none (.t 70), [2], none⟩⟩,
    ⟨true, ⟨(some 72), .mov (.t 0), [], none⟩⟩,
    ⟨true, ⟨(some 73), .mov (.t 9), [], none⟩⟩,
    ⟨true, ⟨(some 74), .bin .sub (.t 73) (.c (.int .i64 (.ofNat 1))), [5], none⟩⟩,
    ⟨true, ⟨(some 75), .iaddr none 1 (.t 72) (.t 74), [4, 6], none⟩⟩,
    ⟨true, ⟨(some 76), .load none (.t 75), [7], none⟩⟩,
    ⟨true, ⟨(some 77), .call .heap (.f 212) [(.t 71), (.t 76)], [3, 8], none⟩⟩,
    ⟨true, ⟨(some 78), .un .not (.t 77), [9], none⟩⟩] [] 301973200486625359953920)
  (.cond (.t 78)
   (.exit 4)
   .skip))
  (.region [⟨true, ⟨(some 79), .mov (.t 0), [], none⟩⟩,
    ⟨true, ⟨(some 80), .mov (.t 9), [], none⟩⟩,
    ⟨true, ⟨(some 81), .mov (.t 0), [], none⟩⟩,
    ⟨true, ⟨(some 82), .mov (.t 9), [], none⟩⟩,
    ⟨true, ⟨(some 83), .bin .sub (.t 82) (.c (.int .i64 (.ofNat 1))), [3], none⟩⟩,
    ⟨true, ⟨(some 84), .mov (.t 0), [], none⟩⟩,
    ⟨true, ⟨(some 85), .mov (.t 9), [], none⟩⟩,
    ⟨true, ⟨(some 86), .bin .sub (.t 85) (.c (.int .i64 (.ofNat 1))), [6], none⟩⟩,
    ⟨true, ⟨(some 87), .iaddr none 1 (.t 84) (.t 86), [5, 7], none⟩⟩,
    ⟨true, ⟨(some 88), .load none (.t 87), [8], none⟩⟩,
    ⟨true, ⟨(some 89), .mov (.t 0), [], none⟩⟩,
    ⟨true, ⟨(some 90), .mov (.t 9), [], none⟩⟩,
    ⟨true, ⟨(some 91), .iaddr none 1 (.t 89) (.t 90), [10, 11], none⟩⟩,
    ⟨true, ⟨(some 92), .load none (.t 91), [12], none⟩⟩,
    ⟨true, ⟨(some 93), .iaddr none 1 (.t 79) (.t 80), [0, 1, 0, 1, 5, 6, 7, 8, 9, 13], none⟩⟩,
    ⟨false, ⟨none, .store 1 (.t 93) (.t 88), [14, 9, 0, 1, 5, 6, 7, 8, 9, 13], none⟩⟩,
    ⟨true, ⟨(some 94), .iaddr none 1 (.t 81) (.t 83), [2, 4, 0, 1, 2, 3, 4, 5, 6, 7, 8, 9, 10, 11, 12, 13, 14, 15], none⟩⟩,
    ⟨false, ⟨none, .store 1 (.t 94) (.t 92), [16, 13, 15, 0, 1, 2, 3, 4, 5, 6, 7, 8, 9, 10, 11, 12, 13, 14, 15], none⟩⟩] [] 39613779025677265139478298624)))
  (.region [⟨true, ⟨(some 66), .mov (.t 9), [], none⟩⟩,
    ⟨true, ⟨(some 67), .bin .sub (.t 66) (.c (.int .i64 (.ofNat 1))), [0], none⟩⟩,
    ⟨false, ⟨(some 9), .mov (.t 67), [1, 0, 1], none⟩⟩] [] 221360928884514619392))))))
  .skip))
 (.seq (.region [⟨true, ⟨(some 95), .mov (.t 2), [], none⟩⟩,
   ⟨true, ⟨(some 96), .mov (.t 7), [], none⟩⟩,
   ⟨true, ⟨(some 97), .bin .sub (.t 95) (.t 96), [0, 1], none⟩⟩,
   ⟨true, ⟨(some 98), .bin .geq (.t 97) (.c (.int .i64 (.ofNat 2))), [2], none⟩⟩] [] 277298568802231024586617520640)
 (.cond (.t 98)
  (.seq (.region [⟨true, ⟨(some 99), .mov (.t 7), [], none⟩⟩,
    ⟨true, ⟨(some 100), .bin .add (.t 99) (.c (.int .i64 (.ofNat 1))), [0], none⟩⟩,
    ⟨true, ⟨(some 10), .mov (.t 100), [1, 0, 1], none⟩⟩] [] 2218388550399401452619230609408)
  (.block 6 (.loop (.seq (.seq (.region [⟨true, ⟨(some 101), .mov (.t 10), [], none⟩⟩,
    ⟨true, ⟨(some 102), .mov (.t 2), [], none⟩⟩,
    ⟨true, ⟨(some 103), .bin .lss (.t 101) (.t 102), [0, 1], none⟩⟩] [] 7605903601369376408980219232256)
  (.cond (.t 103)
   .skip
   (.exit 6)))
  (.seq (.block 7 (.seq (.seq (.region [⟨true, ⟨(some 106), .mov (.t 0), [], none⟩⟩,
    ⟨true, ⟨(some 107), .mov (.t 10), [], none⟩⟩,
    ⟨true, ⟨(some 108), .iaddr none 1 (.t 106) (.t 107), [0, 1], none⟩⟩,
    ⟨true, ⟨(some 109), .load none (.t 108), [2], none⟩⟩,
    ⟨true, ⟨(some 110), .mov (.t 0), [], none⟩⟩,
    ⟨true, ⟨(some 111), .mov (.t 10), [], none⟩⟩,
    ⟨true, ⟨(some 112), .bin .sub (.t 111) (.c (.int .i64 (.ofNat 1))), [5], none⟩⟩,
    ⟨true, ⟨(some 113), .iaddr none 1 (.t 110) (.t 112), [4, 6], none⟩⟩,
    ⟨true, ⟨(some 114), .load none (.t 113), [7], none⟩⟩,
    ⟨true, ⟨(some 115), .call .heap (.f 212) [(.t 109), (.t 114)], [3, 8], none⟩⟩,
    ⟨true, ⟨(some 116), .un .not (.t 115), [9], none⟩⟩] [] 83005761302944461210004125888020480)
  (.cond (.t 116)
   (.exit 6)
   .skip))
  (.region [⟨true, ⟨(some 117), .mov (.t 0), [], none⟩⟩,
    ⟨true, ⟨(some 118), .mov (.t 10), [], none⟩⟩,
    ⟨true, ⟨(some 119), .mov (.t 0), [], none⟩⟩,
    ⟨true, ⟨(some 120), .mov (.t 10), [], none⟩⟩,
    ⟨true, ⟨(some 121), .bin .sub (.t 120) (.c (.int .i64 (.ofNat 1))), [3], none⟩⟩,
    ⟨true, ⟨(some 122), .mov (.t 0), [], none⟩⟩,
    ⟨true, ⟨(some 123), .mov (.t 10), [], none⟩⟩,
    ⟨true, ⟨(some 124), .bin .sub (.t 123) (.c (.int .i64 (.ofNat 1))), [6], none⟩⟩,
    ⟨true, ⟨(some 125), .iaddr none 1 (.t 122) (.t 124), [5, 7], none⟩⟩,
    ⟨true, ⟨(some 126), .load none (.t 125), [8], none⟩⟩,
    ⟨true, ⟨(some 127), .mov (.t 0), [], none⟩⟩,
    ⟨true, ⟨(some 128), .mov (.t 10), [], none⟩⟩,
    ⟨true, ⟨(some 129), .iaddr none 1 (.t 127) (.t 128), [10, 11], none⟩⟩,
    ⟨true, ⟨(some 130), .load none (.t 129), [12], none⟩⟩,
    ⟨true, ⟨(some 131), .iaddr none 1 (.t 117) (.t 118), [0, 1, 0, 1, 5, 6, 7, 8, 9, 13], none⟩⟩,
    ⟨false, ⟨none, .store 1 (.t 131) (.t 126), [14, 9, 0, 1, 5, 6, 7, 8, 9, 13], none⟩⟩,
    ⟨true, ⟨(some 132), .iaddr none 1 (.t 119) (.t 121), [2, 4, 0, 1, 2, 3, 4, 5, 6, 7, 8, 9, 10, 11, 12, 13, 14, 15], none⟩⟩,
    ⟨false, ⟨none, .store 1 (.t 132) (.t 130), [16, 13, 15, 0, 1, 2, 3, 4, 5, 6, 7, 8, 9, 10, 11, 12, 13, 14, 15], none⟩⟩] [] 10888952664720294273585930949875315245056)))
  (.region [⟨true, ⟨(some 104), .mov (.t 10), [], none⟩⟩,
    ⟨true, ⟨(some 105), .bin .add (.t 104) (.c (.int .i64 (.ofNat 1))), [0], none⟩⟩,
    ⟨false, ⟨(some 10), .mov (.t 105), [1, 0, 1], none⟩⟩] [] 60847228810955011271841753858048))))))
  .skip))))))))
 (.region [⟨true, ⟨(some 15), .mov (.t 8), [], none⟩⟩,
   ⟨true, ⟨(some 16), .bin .add (.t 15) (.c (.int .i64 (.ofNat 1))), [0], none⟩⟩,
   ⟨false, ⟨(some 8), .mov (.t 16), [1, 0, 1], none⟩⟩] [] 316912650057057350374175900672))))))
 (.seq (.region [⟨true, ⟨(some 6), .mov (.c (.bool false)), [], none⟩⟩] [] 4292870535)
 .ret))))⟩
def f212 : FFn := ⟨17, [.tmp 4],
 (.seq (.region [⟨true, ⟨(some 4), .mov (.c (.bool false)), [], none⟩⟩] [] 16)
 (.seq (.region [⟨true, ⟨(some 5), .mov (.t 0), [], none⟩⟩,
   ⟨true, ⟨(some 6), .call .heap (.f 259) [(.t 5)], [0], none⟩⟩,
   ⟨true, ⟨(some 7), .mov (.t 6), [1, 1], none⟩⟩,
   ⟨true, ⟨(some 8), .mov (.t 1), [2], (some (7, true))⟩⟩,
   ⟨true, ⟨(some 9), .call .heap (.f 259) [(.t 8)], [3, 2, 2], (some (7, true))⟩⟩,
   ⟨true, ⟨(some 10), .un .not (.t 9), [4, 2], (some (7, true))⟩⟩,
   ⟨true, ⟨(some 11), .pick (.t 7) (.t 10) (.c (.bool false)), [2, 5], none⟩⟩,
   ⟨true, ⟨(some 12), .mov (.t 11), [6, 4], none⟩⟩,
   ⟨true, ⟨(some 13), .mov (.t 0), [7], (some (12, false))⟩⟩,
   ⟨true, ⟨(some 14), .mov (.t 1), [7], (some (12, false))⟩⟩,
   ⟨true, ⟨(some 15), .bin .lss (.t 13) (.t 14), [8, 9, 7], (some (12, false))⟩⟩,
   ⟨true, ⟨(some 16), .pick (.t 12) (.c (.bool true)) (.t 15), [7, 10], none⟩⟩,
   ⟨true, ⟨(some 4), .mov (.t 16), [11, 7, 0, 1, 2, 3, 4, 5, 6, 7, 8, 9, 10, 11], none⟩⟩] [] 131043)
 .ret))⟩
def f213 : FFn := ⟨84, [.tmp 8],
 (.seq (.region [⟨true, ⟨(some 8), .mov (.c (.int .i64 (.ofNat 0))), [], none⟩⟩] [] 256)
 (.seq (.region [⟨true, ⟨(some 11), .mov (.t 0), [], none⟩⟩,
   ⟨true, ⟨(some 12), .mov (.t 1), [], none⟩⟩,
   ⟨true, ⟨(some 13), .mov (.t 0), [], none⟩⟩,
   ⟨true, ⟨(some 14), .mov (.t 3), [], none⟩⟩,
   ⟨true, ⟨(some 15), .mov (.t 0), [], none⟩⟩,
   ⟨true, ⟨(some 16), .mov (.t 3), [], none⟩⟩,
   ⟨true, ⟨(some 17), .iaddr none 1 (.t 15) (.t 16), [4, 5], none⟩⟩,
   ⟨true, ⟨(some 18), .load none (.t 17), [6], none⟩⟩,
   ⟨true, ⟨(some 19), .mov (.t 0), [], none⟩⟩,
   ⟨true, ⟨(some 20), .mov (.t 1), [], none⟩⟩,
   ⟨true, ⟨(some 21), .iaddr none 1 (.t 19) (.t 20), [8, 9], none⟩⟩,
   ⟨true, ⟨(some 22), .load none (.t 21), [10], none⟩⟩,
   ⟨true, ⟨(some 23), .iaddr none 1 (.t 11) (.t 12), [0, 1, 0, 1, 4, 5, 6, 7, 11], none⟩⟩,
   ⟨false, ⟨none, .store 1 (.t 23) (.t 18), [12, 7, 0, 1, 4, 5, 6, 7, 11], none⟩⟩,
   ⟨true, ⟨(some 24), .iaddr none 1 (.t 13) (.t 14), [2, 3, 0, 1, 2, 3, 4, 5, 6, 7, 8, 9, 10, 11, 12, 13], none⟩⟩,
   ⟨false, ⟨none, .store 1 (.t 24) (.t 22), [14, 11, 13, 0, 1, 2, 3, 4, 5, 6, 7, 8, 9, 10, 11, 12, 13], none⟩⟩] [] 33552392)
 (.seq (.region [⟨true, ⟨(some 25), .mov (.t 1), [], none⟩⟩,
   ⟨true, ⟨(some 26), .bin .add (.t 25) (.c (.int .i64 (.ofNat 1))), [0], none⟩⟩,
   ⟨true, ⟨(some 27), .mov (.t 2), [], none⟩⟩,
   ⟨true, ⟨(some 28), .bin .sub (.t 27) (.c (.int .i64 (.ofNat 1))), [2], none⟩⟩,
   ⟨true, ⟨(some 9), .mov (.t 26), [1, 0, 1], none⟩⟩,
   ⟨true, ⟨(some 10), .mov (.t 28), [3, 4, 0, 1, 2, 3, 4], none⟩⟩] [] 503316484)
 (.seq (.block 0 (.loop (.block 1 (.seq (.block 2 (.loop (.seq (.seq (.region [⟨true, ⟨(some 29), .mov (.t 9), [], none⟩⟩,
   ⟨true, ⟨(some 30), .mov (.t 10), [], none⟩⟩,
   ⟨true, ⟨(some 31), .bin .leq (.t 29) (.t 30), [0, 1], none⟩⟩,
   ⟨true, ⟨(some 32), .mov (.t 31), [2], none⟩⟩,
   ⟨false, ⟨(some 33), .mov (.t 0), [3], (some (32, true))⟩⟩,
   ⟨false, ⟨(some 34), .mov (.t 1), [3], (some (32, true))⟩⟩,
   ⟨false, ⟨(some 35), .iaddr none 1 (.t 33) (.t 34), [4, 5, 3], (some (32, true))⟩⟩,
   ⟨false, ⟨(some 36), .load none (.t 35), [6, 3], (some (32, true))⟩⟩,
   ⟨false, ⟨(some 37), .mov (.t 0), [3], (some (32, true))⟩⟩,
   ⟨false, ⟨(some 38), .mov (.t 9), [3], (some (32, true))⟩⟩,
   ⟨false, ⟨(some 39), .iaddr none 1 (.t 37) (.t 38), [8, 9, 3], (some (32, true))⟩⟩,
   ⟨false, ⟨(some 40), .load none (.t 39), [10, 3], (some (32, true))⟩⟩,
   ⟨false, ⟨(some 41), .call .heap (.f 212) [(.t 36), (.t 40)], [7, 11, 3, 3], (some (32, true))⟩⟩,
   ⟨false, ⟨(some 42), .un .not (.t 41), [12, 3], (some (32, true))⟩⟩,
   ⟨true, ⟨(some 43), .pick (.t 32) (.t 42) (.c (.bool false)), [3, 13], none⟩⟩] [] 8053063680)
 (.cond (.t 43)
  .skip
  (.exit 2)))
 (.block 3 (.region [⟨true, ⟨(some 44), .mov (.t 9), [], none⟩⟩,
   ⟨true, ⟨(some 45), .bin .add (.t 44) (.c (.int .i64 (.ofNat 1))), [0], none⟩⟩,
   ⟨false, ⟨(some 9), .mov (.t 45), [1, 0, 1], none⟩⟩] [] 61572651155456)))))
 (.seq (.block 4 (.loop (.seq (.seq (.region [⟨true, ⟨(some 46), .mov (.t 9), [], none⟩⟩,
   ⟨true, ⟨(some 47), .mov (.t 10), [], none⟩⟩,
   ⟨true, ⟨(some 48), .bin .leq (.t 46) (.t 47), [0, 1], none⟩⟩,
   ⟨true, ⟨(some 49), .mov (.t 48), [2], none⟩⟩,
   ⟨false, ⟨(some 50), .mov (.t 0), [3], (some (49, true))⟩⟩,
   ⟨false, ⟨(some 51), .mov (.t 1), [3], (some (49, true))⟩⟩,
   ⟨false, ⟨(some 52), .iaddr none 1 (.t 50) (.t 51), [4, 5, 3], (some (49, true))⟩⟩,
   ⟨false, ⟨(some 53), .load none (.t 52), [6, 3], (some (49, true))⟩⟩,
   ⟨false, ⟨(some 54), .mov (.t 0), [3], (some (49, true))⟩⟩,
   ⟨false, ⟨(some 55), .mov (.t 10), [3], (some (49, true))⟩⟩,
   ⟨false, ⟨(some 56), .iaddr none 1 (.t 54) (.t 55), [8, 9, 3], (some (49, true))⟩⟩,
   ⟨false, ⟨(some 57), .load none (.t 56), [10, 3], (some (49, true))⟩⟩,
   ⟨false, ⟨(some 58), .call .heap (.f 212) [(.t 53), (.t 57)], [7, 11, 3, 3], (some (49, true))⟩⟩,
   ⟨true, ⟨(some 59), .pick (.t 49) (.t 58) (.c (.bool false)), [3, 12], none⟩⟩] [] 1055531162664960)
 (.cond (.t 59)
  .skip
  (.exit 4)))
 (.block 5 (.region [⟨true, ⟨(some 60), .mov (.t 10), [], none⟩⟩,
   ⟨true, ⟨(some 61), .bin .sub (.t 60) (.c (.int .i64 (.ofNat 1))), [0], none⟩⟩,
   ⟨false, ⟨(some 10), .mov (.t 61), [1, 0, 1], none⟩⟩] [] 4035225266123964416)))))
 (.seq (.seq (.region [⟨true, ⟨(some 62), .mov (.t 9), [], none⟩⟩,
   ⟨true, ⟨(some 63), .mov (.t 10), [], none⟩⟩,
   ⟨true, ⟨(some 64), .bin .gtr (.t 62) (.t 63), [0, 1], none⟩⟩] [] 13835058055282163712)
 (.cond (.t 64)
  (.exit 0)
  .skip))
 (.seq (.region [⟨true, ⟨(some 65), .mov (.t 0), [], none⟩⟩,
   ⟨true, ⟨(some 66), .mov (.t 9), [], none⟩⟩,
   ⟨true, ⟨(some 67), .mov (.t 0), [], none⟩⟩,
   ⟨true, ⟨(some 68), .mov (.t 10), [], none⟩⟩,
   ⟨true, ⟨(some 69), .mov (.t 0), [], none⟩⟩,
   ⟨true, ⟨(some 70), .mov (.t 10), [], none⟩⟩,
   ⟨true, ⟨(some 71), .iaddr none 1 (.t 69) (.t 70), [4, 5], none⟩⟩,
   ⟨true, ⟨(some 72), .load none (.t 71), [6], none⟩⟩,
   ⟨true, ⟨(some 73), .mov (.t 0), [], none⟩⟩,
   ⟨true, ⟨(some 74), .mov (.t 9), [], none⟩⟩,
   ⟨true, ⟨(some 75), .iaddr none 1 (.t 73) (.t 74), [8, 9], none⟩⟩,
   ⟨true, ⟨(some 76), .load none (.t 75), [10], none⟩⟩,
   ⟨true, ⟨(some 77), .iaddr none 1 (.t 65) (.t 66), [0, 1, 0, 1, 4, 5, 6, 7, 11], none⟩⟩,
   ⟨false, ⟨none, .store 1 (.t 77) (.t 72), [12, 7, 0, 1, 4, 5, 6, 7, 11], none⟩⟩,
   ⟨true, ⟨(some 78), .iaddr none 1 (.t 67) (.t 68), [2, 3, 0, 1, 2, 3, 4, 5, 6, 7, 8, 9, 10, 11, 12, 13], none⟩⟩,
   ⟨false, ⟨none, .store 1 (.t 78) (.t 76), [14, 11, 13, 0, 1, 2, 3, 4, 5, 6, 7, 8, 9, 10, 11, 12, 13], none⟩⟩] [] 604444463063240877801472)
 (.seq (.region [⟨true, ⟨(some 79), .mov (.t 9), [], none⟩⟩,
   ⟨true, ⟨(some 80), .bin .add (.t 79) (.c (.int .i64 (.ofNat 1))), [0], none⟩⟩,
   ⟨false, ⟨(some 9), .mov (.t 80), [1, 0, 1], none⟩⟩] [] 1813388729421943762059264)
 (.region [⟨true, ⟨(some 81), .mov (.t 10), [], none⟩⟩,
   ⟨true, ⟨(some 82), .bin .sub (.t 81) (.c (.int .i64 (.ofNat 1))), [0], none⟩⟩,
   ⟨false, ⟨(some 10), .mov (.t 82), [1, 0, 1], none⟩⟩] [] 7253554917687775048237056)))))))))
 (.seq (.region [⟨true, ⟨(some 83), .mov (.t 9), [], none⟩⟩,
   ⟨true, ⟨(some 8), .mov (.t 83), [0, 0], none⟩⟩] [] 9671407132260673297319427)
 .ret)))))⟩
def f214 : FFn := ⟨168, [.tmp 8, .tmp 9],
 (.seq (.region [⟨true, ⟨(some 8), .mov (.c (.int .i64 (.ofNat 0))), [], none⟩⟩,
   ⟨true, ⟨(some 9), .mov (.c (.bool false)), [0], none⟩⟩] [] 768)
 (.seq (.region [⟨true, ⟨(some 12), .mov (.t 0), [], none⟩⟩,
   ⟨true, ⟨(some 13), .mov (.t 1), [], none⟩⟩,
   ⟨true, ⟨(some 14), .mov (.t 0), [], none⟩⟩,
   ⟨true, ⟨(some 15), .mov (.t 3), [], none⟩⟩,
   ⟨true, ⟨(some 16), .mov (.t 0), [], none⟩⟩,
   ⟨true, ⟨(some 17), .mov (.t 3), [], none⟩⟩,
   ⟨true, ⟨(some 18), .iaddr none 1 (.t 16) (.t 17), [4, 5], none⟩⟩,
   ⟨true, ⟨(some 19), .load none (.t 18), [6], none⟩⟩,
   ⟨true, ⟨(some 20), .mov (.t 0), [], none⟩⟩,
   ⟨true, ⟨(some 21), .mov (.t 1), [], none⟩⟩,
   ⟨true, ⟨(some 22), .iaddr none 1 (.t 20) (.t 21), [8, 9], none⟩⟩,
   ⟨true, ⟨(some 23), .load none (.t 22), [10], none⟩⟩,
   ⟨true, ⟨(some 24), .iaddr none 1 (.t 12) (.t 13), [0, 1, 0, 1, 4, 5, 6, 7, 11], none⟩⟩,
   ⟨false, ⟨none, .store 1 (.t 24) (.t 19), [12, 7, 0, 1, 4, 5, 6, 7, 11], none⟩⟩,
   ⟨true, ⟨(some 25), .iaddr none 1 (.t 14) (.t 15), [2, 3, 0, 1, 2, 3, 4, 5, 6, 7, 8, 9, 10, 11, 12, 13], none⟩⟩,
   ⟨false, ⟨none, .store 1 (.t 25) (.t 23), [14, 11, 13, 0, 1, 2, 3, 4, 5, 6, 7, 8, 9, 10, 11, 12, 13], none⟩⟩] [] 67104776)
 (.seq (.region [⟨true, ⟨(some 26), .mov (.t 1), [], none⟩⟩,
   ⟨true, ⟨(some 27), .bin .add (.t 26) (.c (.int .i64 (.ofNat 1))), [0], none⟩⟩,
   ⟨true, ⟨(some 28), .mov (.t 2), [], none⟩⟩,
   ⟨true, ⟨(some 29), .bin .sub (.t 28) (.c (.int .i64 (.ofNat 1))), [2], none⟩⟩,
   ⟨true, ⟨(some 10), .mov (.t 27), [1, 0, 1], none⟩⟩,
   ⟨true, ⟨(some 11), .mov (.t 29), [3, 4, 0, 1, 2, 3, 4], none⟩⟩] [] 1006632964)
 (.seq (.block 0 (.loop (.seq (.seq (.region [⟨true, ⟨(some 30), .mov (.t 10), [], none⟩⟩,
   ⟨true, ⟨(some 31), .mov (.t 11), [], none⟩⟩,
   ⟨true, ⟨(some 32), .bin .leq (.t 30) (.t 31), [0, 1], none⟩⟩,
   ⟨true, ⟨(some 33), .mov (.t 32), [2], none⟩⟩,
   ⟨false, ⟨(some 34), .mov (.t 0), [3], (some (33, true))⟩⟩,
   ⟨false, ⟨(some 35), .mov (.t 10), [3], (some (33, true))⟩⟩,
   ⟨false, ⟨(some 36), .iaddr none 1 (.t 34) (.t 35), [4, 5, 3], (some (33, true))⟩⟩,
   ⟨false, ⟨(some 37), .load none (.t 36), [6, 3], (some (33, true))⟩⟩,
   ⟨false, ⟨(some 38), .mov (.t 0), [3], (some (33, true))⟩⟩,
   ⟨false, ⟨(some 39), .mov (.t 1), [3], (some (33, true))⟩⟩,
   ⟨false, ⟨(some 40), .iaddr none 1 (.t 38) (.t 39), [8, 9, 3], (some (33, true))⟩⟩,
   ⟨false, ⟨(some 41), .load none (.t 40), [10, 3], (some (33, true))⟩⟩,
   ⟨false, ⟨(some 42), .call .heap (.f 212) [(.t 37), (.t 41)], [7, 11, 3, 3], (some (33, true))⟩⟩,
   ⟨true, ⟨(some 43), .pick (.t 33) (.t 42) (.c (.bool false)), [3, 12], none⟩⟩] [] 16106127360)
 (.cond (.t 43)
  .skip
  (.exit 0)))
 (.block 1 (.region [⟨true, ⟨(some 44), .mov (.t 10), [], none⟩⟩,
   ⟨true, ⟨(some 45), .bin .add (.t 44) (.c (.int .i64 (.ofNat 1))), [0], none⟩⟩,
   ⟨false, ⟨(some 10), .mov (.t 45), [1, 0, 1], none⟩⟩] [] 61572651155456)))))
 (.seq (.block 2 (.loop (.seq (.seq (.region [⟨true, ⟨(some 46), .mov (.t 10), [], none⟩⟩,
   ⟨true, ⟨(some 47), .mov (.t 11), [], none⟩⟩,
   ⟨true, ⟨(some 48), .bin .leq (.t 46) (.t 47), [0, 1], none⟩⟩,
   ⟨true, ⟨(some 49), .mov (.t 48), [2], none⟩⟩,
   ⟨false, ⟨(some 50), .mov (.t 0), [3], (some (49, true))⟩⟩,
   ⟨false, ⟨(some 51), .mov (.t 11), [3], (some (49, true))⟩⟩,
   ⟨false, ⟨(some 52), .iaddr none 1 (.t 50) (.t 51), [4, 5, 3], (some (49, true))⟩⟩,
   ⟨false, ⟨(some 53), .load none (.t 52), [6, 3], (some (49, true))⟩⟩,
   ⟨false, ⟨(some 54), .mov (.t 0), [3], (some (49, true))⟩⟩,
   ⟨false, ⟨(some 55), .mov (.t 1), [3], (some (49, true))⟩⟩,
   ⟨false, ⟨(some 56), .iaddr none 1 (.t 54) (.t 55), [8, 9, 3], (some (49, true))⟩⟩,
   ⟨false, ⟨(some 57), .load none (.t 56), [10, 3], (some (49, true))⟩⟩,
   ⟨false, ⟨(some 58), .call .heap (.f 212) [(.t 53), (.t 57)], [7, 11, 3, 3], (some (49, true))⟩⟩,
   ⟨false, ⟨(some 59), .un .not (.t 58), [12, 3], (some (49, true))⟩⟩,
   ⟨true, ⟨(some 60), .pick (.t 49) (.t 59) (.c (.bool false)), [3, 13], none⟩⟩] [] 1064310075817984)
 (.cond (.t 60)
  .skip
  (.exit 2)))
 (.block 3 (.region [⟨true, ⟨(some 61), .mov (.t 11), [], none⟩⟩,
   ⟨true, ⟨(some 62), .bin .sub (.t 61) (.c (.int .i64 (.ofNat 1))), [0], none⟩⟩,
   ⟨false, ⟨(some 11), .mov (.t 62), [1, 0, 1], none⟩⟩] [] 8070450532247928832)))))
 (.seq (.seq (.region [⟨true, ⟨(some 63), .mov (.t 10), [], none⟩⟩,
   ⟨true, ⟨(some 64), .mov (.t 11), [], none⟩⟩,
   ⟨true, ⟨(some 65), .bin .gtr (.t 63) (.t 64), [0, 1], none⟩⟩] [] 28821920494177484800)
 (.cond (.t 65)
  (.seq (.region [⟨true, ⟨(some 66), .mov (.t 0), [], none⟩⟩,
    ⟨true, ⟨(some 67), .mov (.t 11), [], none⟩⟩,
    ⟨true, ⟨(some 68), .mov (.t 0), [], none⟩⟩,
    ⟨true, ⟨(some 69), .mov (.t 1), [], none⟩⟩,
    ⟨true, ⟨(some 70), .mov (.t 0), [], none⟩⟩,
    ⟨true, ⟨(some 71), .mov (.t 1), [], none⟩⟩,
    ⟨true, ⟨(some 72), .iaddr none 1 (.t 70) (.t 71), [4, 5], none⟩⟩,
    ⟨true, ⟨(some 73), .load none (.t 72), [6], none⟩⟩,
    ⟨true, ⟨(some 74), .mov (.t 0), [], none⟩⟩,
    ⟨true, ⟨(some 75), .mov (.t 11), [], none⟩⟩,
    ⟨true, ⟨(some 76), .iaddr none 1 (.t 74) (.t 75), [8, 9], none⟩⟩,
    ⟨true, ⟨(some 77), .load none (.t 76), [10], none⟩⟩,
    ⟨true, ⟨(some 78), .iaddr none 1 (.t 66) (.t 67), [0, 1, 0, 1, 4, 5, 6, 7, 11], none⟩⟩,
    ⟨false, ⟨none, .store 1 (.t 78) (.t 73), [12, 7, 0, 1, 4, 5, 6, 7, 11], none⟩⟩,
    ⟨true, ⟨(some 79), .iaddr none 1 (.t 68) (.t 69), [2, 3, 0, 1, 2, 3, 4, 5, 6, 7, 8, 9, 10, 11, 12, 13], none⟩⟩,
    ⟨false, ⟨none, .store 1 (.t 79) (.t 77), [14, 11, 13, 0, 1, 2, 3, 4, 5, 6, 7, 8, 9, 10, 11, 12, 13], none⟩⟩] [] 679905301999639410881016756337855431683)
  (.seq (.region [⟨true, ⟨(some 80), .mov (.t 11), [], none⟩⟩,
    ⟨true, ⟨(some 8), .mov (.t 80), [0, 0], none⟩⟩,
    ⟨true, ⟨(some 9), .mov (.c (.bool true)), [1, 0, 1], none⟩⟩] [] 1208925819614629174708224)
  .ret))
  .skip))
 (.seq (.region [⟨true, ⟨(some 81), .mov (.t 0), [], none⟩⟩,
   ⟨true, ⟨(some 82), .mov (.t 10), [], none⟩⟩,
   ⟨true, ⟨(some 83), .mov (.t 0), [], none⟩⟩,
   ⟨true, ⟨(some 84), .mov (.t 11), [], none⟩⟩,
   ⟨true, ⟨(some 85), .mov (.t 0), [], none⟩⟩,
   ⟨true, ⟨(some 86), .mov (.t 11), [], none⟩⟩,
   ⟨true, ⟨(some 87), .iaddr none 1 (.t 85) (.t 86), [4, 5], none⟩⟩,
   ⟨true, ⟨(some 88), .load none (.t 87), [6], none⟩⟩,
   ⟨true, ⟨(some 89), .mov (.t 0), [], none⟩⟩,
   ⟨true, ⟨(some 90), .mov (.t 10), [], none⟩⟩,
   ⟨true, ⟨(some 91), .iaddr none 1 (.t 89) (.t 90), [8, 9], none⟩⟩,
   ⟨true, ⟨(some 92), .load none (.t 91), [10], none⟩⟩,
   ⟨true, ⟨(some 93), .iaddr none 1 (.t 81) (.t 82), [0, 1, 0, 1, 4, 5, 6, 7, 11], none⟩⟩,
   ⟨false, ⟨none, .store 1 (.t 93) (.t 88), [12, 7, 0, 1, 4, 5, 6, 7, 11], none⟩⟩,
   ⟨true, ⟨(some 94), .iaddr none 1 (.t 83) (.t 84), [2, 3, 0, 1, 2, 3, 4, 5, 6, 7, 8, 9, 10, 11, 12, 13], none⟩⟩,
   ⟨false, ⟨none, .store 1 (.t 94) (.t 92), [14, 11, 13, 0, 1, 2, 3, 4, 5, 6, 7, 8, 9, 10, 11, 12, 13], none⟩⟩] [] 39611663442386427685841666816)
 (.seq (.region [⟨true, ⟨(some 95), .mov (.t 10), [], none⟩⟩,
   ⟨true, ⟨(some 96), .bin .add (.t 95) (.c (.int .i64 (.ofNat 1))), [0], none⟩⟩,
   ⟨false, ⟨(some 10), .mov (.t 96), [1, 0, 1], none⟩⟩] [] 118842243771396506390315925504)
 (.seq (.region [⟨true, ⟨(some 97), .mov (.t 11), [], none⟩⟩,
   ⟨true, ⟨(some 98), .bin .sub (.t 97) (.c (.int .i64 (.ofNat 1))), [0], none⟩⟩,
   ⟨false, ⟨(some 11), .mov (.t 98), [1, 0, 1], none⟩⟩] [] 475368975085586025561263702016)
 (.seq (.block 4 (.loop (.block 5 (.seq (.block 6 (.loop (.seq (.seq (.region [⟨true, ⟨(some 99), .mov (.t 10), [], none⟩⟩,
   ⟨true, ⟨(some 100), .mov (.t 11), [], none⟩⟩,
   ⟨true, ⟨(some 101), .bin .leq (.t 99) (.t 100), [0, 1], none⟩⟩,
   ⟨true, ⟨(some 102), .mov (.t 101), [2], none⟩⟩,
   ⟨false, ⟨(some 103), .mov (.t 0), [3], (some (102, true))⟩⟩,
   ⟨false, ⟨(some 104), .mov (.t 10), [3], (some (102, true))⟩⟩,
   ⟨false, ⟨(some 105), .iaddr none 1 (.t 103) (.t 104), [4, 5, 3], (some (102, true))⟩⟩,
   ⟨false, ⟨(some 106), .load none (.t 105), [6, 3], (some (102, true))⟩⟩,
   ⟨false, ⟨(some 107), .mov (.t 0), [3], (some (102, true))⟩⟩,
   ⟨false, ⟨(some 108), .mov (.t 1), [3], (some (102, true))⟩⟩,
   ⟨false, ⟨(some 109), .iaddr none 1 (.t 107) (.t 108), [8, 9, 3], (some (102, true))⟩⟩,
   ⟨false, ⟨(some 110), .load none (.t 109), [10, 3], (some (102, true))⟩⟩,
   ⟨false, ⟨(some 111), .call .heap (.f 212) [(.t 106), (.t 110)], [7, 11, 3, 3], (some (102, true))⟩⟩,
   ⟨true, ⟨(some 112), .pick (.t 102) (.t 111) (.c (.bool false)), [3, 12], none⟩⟩] [] 9507379501711720511225274040320)
 (.cond (.t 112)
  .skip
  (.exit 6)))
 (.block 7 (.region [⟨true, ⟨(some 113), .mov (.t 10), [], none⟩⟩,
   ⟨true, ⟨(some 114), .bin .add (.t 113) (.c (.int .i64 (.ofNat 1))), [0], none⟩⟩,
   ⟨false, ⟨(some 10), .mov (.t 114), [1, 0, 1], none⟩⟩] [] 36346078009743793399713474304540672)))))
 (.seq (.block 8 (.loop (.seq (.seq (.region [⟨true, ⟨(some 115), .mov (.t 10), [], none⟩⟩,
   ⟨true, ⟨(some 116), .mov (.t 11), [], none⟩⟩,
   ⟨true, ⟨(some 117), .bin .leq (.t 115) (.t 116), [0, 1], none⟩⟩,
   ⟨true, ⟨(some 118), .mov (.t 117), [2], none⟩⟩,
   ⟨false, ⟨(some 119), .mov (.t 0), [3], (some (118, true))⟩⟩,
   ⟨false, ⟨(some 120), .mov (.t 11), [3], (some (118, true))⟩⟩,
   ⟨false, ⟨(some 121), .iaddr none 1 (.t 119) (.t 120), [4, 5, 3], (some (118, true))⟩⟩,
   ⟨false, ⟨(some 122), .load none (.t 121), [6, 3], (some (118, true))⟩⟩,
   ⟨false, ⟨(some 123), .mov (.t 0), [3], (some (118, true))⟩⟩,
   ⟨false, ⟨(some 124), .mov (.t 1), [3], (some (118, true))⟩⟩,
   ⟨false, ⟨(some 125), .iaddr none 1 (.t 123) (.t 124), [8, 9, 3], (some (118, true))⟩⟩,
   ⟨false, ⟨(some 126), .load none (.t 125), [10, 3], (some (118, true))⟩⟩,
   ⟨false, ⟨(some 127), .call .heap (.f 212) [(.t 122), (.t 126)], [7, 11, 3, 3], (some (118, true))⟩⟩,
   ⟨false, ⟨(some 128), .un .not (.t 127), [12, 3], (some (118, true))⟩⟩,
   ⟨true, ⟨(some 129), .pick (.t 118) (.t 128) (.c (.bool false)), [3, 13], none⟩⟩] [] 623075623024179315423659559506411520)
 (.cond (.t 129)
  .skip
  (.exit 8)))
 (.block 9 (.region [⟨true, ⟨(some 130), .mov (.t 11), [], none⟩⟩,
   ⟨true, ⟨(some 131), .bin .sub (.t 130) (.c (.int .i64 (.ofNat 1))), [0], none⟩⟩,
   ⟨false, ⟨(some 11), .mov (.t 131), [1, 0, 1], none⟩⟩] [] 4763953136893138488487244504044754960384)))))
 (.seq (.seq (.region [⟨true, ⟨(some 132), .mov (.t 10), [], none⟩⟩,
   ⟨true, ⟨(some 133), .mov (.t 11), [], none⟩⟩,
   ⟨true, ⟨(some 134), .bin .gtr (.t 132) (.t 133), [0, 1], none⟩⟩] [] 16333553612205046246241981156724874149888)
 (.cond (.t 134)
  (.exit 4)
  .skip))
 (.seq (.region [⟨true, ⟨(some 135), .mov (.t 0), [], none⟩⟩,
   ⟨true, ⟨(some 136), .mov (.t 10), [], none⟩⟩,
   ⟨true, ⟨(some 137), .mov (.t 0), [], none⟩⟩,
   ⟨true, ⟨(some 138), .mov (.t 11), [], none⟩⟩,
   ⟨true, ⟨(some 139), .mov (.t 0), [], none⟩⟩,
   ⟨true, ⟨(some 140), .mov (.t 11), [], none⟩⟩,
   ⟨true, ⟨(some 141), .iaddr none 1 (.t 139) (.t 140), [4, 5], none⟩⟩,
   ⟨true, ⟨(some 142), .load none (.t 141), [6], none⟩⟩,
   ⟨true, ⟨(some 143), .mov (.t 0), [], none⟩⟩,
   ⟨true, ⟨(some 144), .mov (.t 10), [], none⟩⟩,
   ⟨true, ⟨(some 145), .iaddr none 1 (.t 143) (.t 144), [8, 9], none⟩⟩,
   ⟨true, ⟨(some 146), .load none (.t 145), [10], none⟩⟩,
   ⟨true, ⟨(some 147), .iaddr none 1 (.t 135) (.t 136), [0, 1, 0, 1, 4, 5, 6, 7, 11], none⟩⟩,
   ⟨false, ⟨none, .store 1 (.t 147) (.t 142), [12, 7, 0, 1, 4, 5, 6, 7, 11], none⟩⟩,
   ⟨true, ⟨(some 148), .iaddr none 1 (.t 137) (.t 138), [2, 3, 0, 1, 2, 3, 4, 5, 6, 7, 8, 9, 10, 11, 12, 13], none⟩⟩,
   ⟨false, ⟨none, .store 1 (.t 148) (.t 146), [14, 11, 13, 0, 1, 2, 3, 4, 5, 6, 7, 8, 9, 10, 11, 12, 13], none⟩⟩] [] 713602068281497000467481328749871935025840128)
 (.seq (.region [⟨true, ⟨(some 149), .mov (.t 10), [], none⟩⟩,
   ⟨true, ⟨(some 150), .bin .add (.t 149) (.c (.int .i64 (.ofNat 1))), [0], none⟩⟩,
   ⟨false, ⟨(some 10), .mov (.t 150), [1, 0, 1], none⟩⟩] [] 2140871539058939821587428954174242704574119936)
 (.region [⟨true, ⟨(some 151), .mov (.t 11), [], none⟩⟩,
   ⟨true, ⟨(some 152), .bin .sub (.t 151) (.c (.int .i64 (.ofNat 1))), [0], none⟩⟩,
   ⟨false, ⟨(some 11), .mov (.t 152), [1, 0, 1], none⟩⟩] [] 8563486156235759286349715816696970818296479744)))))))))
 (.seq (.region [⟨true, ⟨(some 153), .mov (.t 0), [], none⟩⟩,
   ⟨true, ⟨(some 154), .mov (.t 11), [], none⟩⟩,
   ⟨true, ⟨(some 155), .mov (.t 0), [], none⟩⟩,
   ⟨true, ⟨(some 156), .mov (.t 1), [], none⟩⟩,
   ⟨true, ⟨(some 157), .mov (.t 0), [], none⟩⟩,
   ⟨true, ⟨(some 158), .mov (.t 1), [], none⟩⟩,
   ⟨true, ⟨(some 159), .iaddr none 1 (.t 157) (.t 158), [4, 5], none⟩⟩,
   ⟨true, ⟨(some 160), .load none (.t 159), [6], none⟩⟩,
   ⟨true, ⟨(some 161), .mov (.t 0), [], none⟩⟩,
   ⟨true, ⟨(some 162), .mov (.t 11), [], none⟩⟩,
   ⟨true, ⟨(some 163), .iaddr none 1 (.t 161) (.t 162), [8, 9], none⟩⟩,
   ⟨true, ⟨(some 164), .load none (.t 163), [10], none⟩⟩,
   ⟨true, ⟨(some 165), .iaddr none 1 (.t 153) (.t 154), [0, 1, 0, 1, 4, 5, 6, 7, 11], none⟩⟩,
   ⟨false, ⟨none, .store 1 (.t 165) (.t 160), [12, 7, 0, 1, 4, 5, 6, 7, 11], none⟩⟩,
   ⟨true, ⟨(some 166), .iaddr none 1 (.t 155) (.t 156), [2, 3, 0, 1, 2, 3, 4, 5, 6, 7, 8, 9, 10, 11, 12, 13], none⟩⟩,
   ⟨false, ⟨none, .store 1 (.t 166) (.t 164), [14, 11, 13, 0, 1, 2, 3, 4, 5, 6, 7, 8, 9, 10, 11, 12, 13], none⟩⟩] [] 187060791597493831153022830501920721184724403356675)
 (.seq (.region [⟨true, ⟨(some 167), .mov (.t 11), [], none⟩⟩,
   ⟨true, ⟨(some 8), .mov (.t 167), [0, 0], none⟩⟩,
   ⟨true, ⟨(some 9), .mov (.c (.bool false)), [1, 0, 1], none⟩⟩] [] 187072209578355573530071658587684226515959365502976)
 .ret))))))))))))⟩
def f215 : FFn := ⟨54, [.tmp 4, .tmp 5],
 (.seq (.region [⟨true, ⟨(some 4), .mov (.c (.int .i64 (.ofNat 0))), [], none⟩⟩,
   ⟨true, ⟨(some 5), .mov (.c (.bool false)), [0], none⟩⟩] [] 48)
 (.seq (.region [⟨true, ⟨(some 10), .mov (.t 0), [], none⟩⟩,
   ⟨true, ⟨(some 11), .len 1 (.t 10), [0], none⟩⟩,
   ⟨true, ⟨(some 6), .mov (.t 11), [1, 0, 1], none⟩⟩] [] 3072)
 (.seq (.region [⟨true, ⟨(some 12), .mov (.t 6), [], none⟩⟩,
   ⟨true, ⟨(some 7), .mov (.c (.int .i64 (.ofNat 0))), [], none⟩⟩,
   ⟨true, ⟨(some 8), .mov (.t 12), [0, 1, 0, 1], none⟩⟩] [] 4096)
 (.seq (.block 0 (.loop (.seq (.seq (.region [⟨true, ⟨(some 13), .mov (.t 7), [], none⟩⟩,
   ⟨true, ⟨(some 14), .mov (.t 8), [], none⟩⟩,
   ⟨true, ⟨(some 15), .bin .lss (.t 13) (.t 14), [0, 1], none⟩⟩] [] 24576)
 (.cond (.t 15)
  .skip
  (.exit 0)))
 (.block 1 (.seq (.region [⟨true, ⟨(some 16), .mov (.t 7), [], none⟩⟩,
   ⟨true, ⟨(some 17), .mov (.t 8), [], none⟩⟩,
   ⟨true, ⟨(some 18), .bin .add (.t 16) (.t 17), [0, 1], none⟩⟩,
   ⟨true, ⟨(some 19), .conv .u64 (.t 18), [2], none⟩⟩,
   ⟨true, ⟨(some 20), .bin .shr (.t 19) (.c (.int .u64 (.ofNat 1))), [3], none⟩⟩,
   ⟨true, ⟨(some 21), .conv .i64 (.t 20), [4], none⟩⟩,
   ⟨true, ⟨(some 9), .mov (.t 21), [5, 0, 1, 2, 3, 4, 5], none⟩⟩] [] 4161536)
 (.seq (.region [⟨true, ⟨(some 22), .mov (.t 0), [], none⟩⟩,
   ⟨true, ⟨(some 23), .mov (.t 9), [], none⟩⟩,
   ⟨true, ⟨(some 24), .iaddr none 1 (.t 22) (.t 23), [0, 1], none⟩⟩,
   ⟨true, ⟨(some 25), .load none (.t 24), [2], none⟩⟩,
   ⟨true, ⟨(some 26), .mov (.t 1), [], none⟩⟩,
   ⟨true, ⟨(some 27), .call .heap (.f 212) [(.t 25), (.t 26)], [3, 4], none⟩⟩] [] 130023424)
 (.cond (.t 27)
  (.region [⟨true, ⟨(some 28), .mov (.t 9), [], none⟩⟩,
    ⟨true, ⟨(some 29), .bin .add (.t 28) (.c (.int .i64 (.ofNat 1))), [0], none⟩⟩,
    ⟨false, ⟨(some 7), .mov (.t 29), [1, 0, 1], none⟩⟩] [] 939524608)
  (.region [⟨true, ⟨(some 30), .mov (.t 9), [], none⟩⟩,
    ⟨false, ⟨(some 8), .mov (.t 30), [0, 0], none⟩⟩] [] 1207960064))))))))
 (.seq (.region [⟨true, ⟨(some 31), .mov (.t 7), [], none⟩⟩,
   ⟨true, ⟨(some 32), .mov (.t 7), [], none⟩⟩,
   ⟨true, ⟨(some 33), .mov (.t 6), [], none⟩⟩,
   ⟨true, ⟨(some 34), .bin .lss (.t 32) (.t 33), [1, 2], none⟩⟩,
   ⟨true, ⟨(some 35), .mov (.t 34), [3], none⟩⟩,
   ⟨false, ⟨(some 36), .mov (.t 0), [4], (some (35, true))⟩⟩,
   ⟨false, ⟨(some 37), .mov (.t 7), [4], (some (35, true))⟩⟩,
   ⟨false, ⟨(some 38), .iaddr none 1 (.t 36) (.t 37), [5, 6, 4], (some (35, true))⟩⟩,
   ⟨false, ⟨(some 39), .load none (.t 38), [7, 4], (some (35, true))⟩⟩,
   ⟨false, ⟨(some 40), .mov (.t 1), [4], (some (35, true))⟩⟩,
   ⟨false, ⟨(some 41), .bin .eql (.t 39) (.t 40), [8, 9, 4], (some (35, true))⟩⟩,
   ⟨false, ⟨(some 42), .mov (.t 41), [10, 4, 4], (some (35, true))⟩⟩,
   ⟨false, ⟨(some 43), .mov (.t 0), [11], (some (42, false))⟩⟩,
   ⟨false, ⟨(some 44), .mov (.t 7), [11], (some (42, false))⟩⟩,
   ⟨false, ⟨(some 45), .iaddr none 1 (.t 43) (.t 44), [12, 13, 11], (some (42, false))⟩⟩,
   ⟨false, ⟨(some 46), .load none (.t 45), [14, 11], (some (42, false))⟩⟩,
   ⟨false, ⟨(some 47), .call .heap (.f 260) [(.t 46)], [15, 11, 11], (some (42, false))⟩⟩,
   ⟨false, ⟨(some 48), .mov (.t 47), [16, 16, 11], (some (42, false))⟩⟩,
   ⟨false, ⟨(some 49), .mov (.t 1), [17], (some (48, true))⟩⟩,
   ⟨false, ⟨(some 50), .call .heap (.f 260) [(.t 49)], [18, 17, 17], (some (48, true))⟩⟩,
   ⟨false, ⟨(some 51), .pick (.t 48) (.t 50) (.c (.bool false)), [17, 19, 11], (some (42, false))⟩⟩,
   ⟨false, ⟨(some 52), .pick (.t 42) (.c (.bool true)) (.t 51), [11, 20, 4], (some (35, true))⟩⟩,
   ⟨true, ⟨(some 53), .pick (.t 35) (.t 52) (.c (.bool false)), [4, 21], none⟩⟩,
   ⟨true, ⟨(some 4), .mov (.t 31), [0, 19, 0], none⟩⟩,
   ⟨true, ⟨(some 5), .mov (.t 53), [22, 23, 0, 1, 2, 3, 4, 5, 6, 7, 8, 9, 10, 11, 12, 13, 14, 15, 16, 17, 18, 19, 20, 21, 22, 23], none⟩⟩] [] 18014396361998787)
 .ret)))))⟩
def f216 : FFn := ⟨10, [.tmp 4],
 (.seq (.region [⟨true, ⟨(some 4), .mov (.c (.bool false)), [], none⟩⟩] [] 16)
 (.seq (.region [⟨true, ⟨(some 5), .mov (.t 0), [], none⟩⟩,
   ⟨true, ⟨(some 6), .mov (.t 5), [0], none⟩⟩,
   ⟨true, ⟨(some 7), .mov (.t 1), [1], (some (6, true))⟩⟩,
   ⟨true, ⟨(some 8), .un .not (.t 7), [2, 1], (some (6, true))⟩⟩,
   ⟨true, ⟨(some 9), .pick (.t 6) (.t 8) (.c (.bool false)), [1, 3], none⟩⟩,
   ⟨true, ⟨(some 4), .mov (.t 9), [4, 1, 0, 1, 2, 3, 4], none⟩⟩] [] 995)
 .ret))⟩
def f230 : FFn := ⟨19, [.tmp 4],
 (.seq (.region [⟨true, ⟨(some 4), .mov (.c (.int .i64 (.ofNat 0))), [], none⟩⟩] [] 16)
 (.seq (.seq (.region [⟨true, ⟨(some 6), .mov (.t 0), [], none⟩⟩,
   ⟨true, ⟨(some 7), .len 1 (.t 6), [0], none⟩⟩,
   ⟨true, ⟨(some 8), .mov (.c (.int .i64 (.ofNat 0))), [], none⟩⟩] [] 64)
 (.block 0 (.loop (.seq (.region [⟨true, ⟨(some 9), .bin .lss (.t 8) (.t 7), [], none⟩⟩] [] 0)
 (.seq (.cond (.t 9)
  .skip
  (.exit 0))
 (.seq (.block 1 (.seq (.region [⟨true, ⟨(some 10), .mov (.t 8), [], none⟩⟩,
   ⟨true, ⟨(some 5), .mov (.t 10), [0, 0], none⟩⟩] [] 1536)
 (.seq (.region [⟨true, ⟨(some 11), .mov (.t 1), [], none⟩⟩,
   ⟨true, ⟨(some 12), .mov (.t 0), [], none⟩⟩,
   ⟨true, ⟨(some 13), .mov (.t 5), [], none⟩⟩,
   ⟨true, ⟨(some 14), .iaddr none 1 (.t 12) (.t 13), [1, 2], none⟩⟩,
   ⟨true, ⟨(some 15), .load none (.t 14), [3], none⟩⟩,
   ⟨true, ⟨(some 16), .bin .eql (.t 11) (.t 15), [0, 4], none⟩⟩] [] 63488)
 (.cond (.t 16)
  (.seq (.region [⟨true, ⟨(some 17), .mov (.t 5), [], none⟩⟩,
    ⟨true, ⟨(some 4), .mov (.t 17), [0, 0], none⟩⟩] [] 197027)
  .ret)
  .skip))))
 (.region [⟨true, ⟨(some 18), .bin .add (.t 8) (.c (.int .i64 (.ofNat 1))), [], none⟩⟩,
   ⟨false, ⟨(some 8), .mov (.t 18), [0], none⟩⟩] [] 327728)))))))
 (.seq (.region [⟨true, ⟨(some 4), .mov (.c (.int .i64 (.negSucc 0))), [], none⟩⟩] [] 387)
 .ret)))⟩
def f239 : FFn := ⟨49, [.tmp 6, .tmp 7],
 (.seq (.region [⟨true, ⟨(some 6), .mov (.c (.int .i64 (.ofNat 0))), [], none⟩⟩,
   ⟨true, ⟨(some 7), .mov (.c (.bool false)), [0], none⟩⟩] [] 192)
 (.seq (.region [⟨true, ⟨(some 12), .mov (.t 0), [], none⟩⟩,
   ⟨true, ⟨(some 13), .len 1 (.t 12), [0], none⟩⟩,
   ⟨true, ⟨(some 8), .mov (.t 13), [1, 0, 1], none⟩⟩] [] 12288)
 (.seq (.region [⟨true, ⟨(some 14), .mov (.t 8), [], none⟩⟩,
   ⟨true, ⟨(some 9), .mov (.c (.int .i64 (.ofNat 0))), [], none⟩⟩,
   ⟨true, ⟨(some 10), .mov (.t 14), [0, 1, 0, 1], none⟩⟩] [] 16384)
 (.seq (.block 0 (.loop (.seq (.seq (.region [⟨true, ⟨(some 15), .mov (.t 9), [], none⟩⟩,
   ⟨true, ⟨(some 16), .mov (.t 10), [], none⟩⟩,
   ⟨true, ⟨(some 17), .bin .lss (.t 15) (.t 16), [0, 1], none⟩⟩] [] 98304)
 (.cond (.t 17)
  .skip
  (.exit 0)))
 (.block 1 (.seq (.region [⟨true, ⟨(some 18), .mov (.t 9), [], none⟩⟩,
   ⟨true, ⟨(some 19), .mov (.t 10), [], none⟩⟩,
   ⟨true, ⟨(some 20), .bin .add (.t 18) (.t 19), [0, 1], none⟩⟩,
   ⟨true, ⟨(some 21), .conv .u64 (.t 20), [2], none⟩⟩,
   ⟨true, ⟨(some 22), .bin .shr (.t 21) (.c (.int .u64 (.ofNat 1))), [3], none⟩⟩,
   ⟨true, ⟨(some 23), .conv .i64 (.t 22), [4], none⟩⟩,
   ⟨true, ⟨(some 11), .mov (.t 23), [5, 0, 1, 2, 3, 4, 5], none⟩⟩] [] 16646144)
 (.seq (.region [⟨true, ⟨(some 24), .mov (.t 2), [], none⟩⟩,
   ⟨true, ⟨(some 25), .mov (.t 0), [], none⟩⟩,
   ⟨true, ⟨(some 26), .mov (.t 11), [], none⟩⟩,
   ⟨true, ⟨(some 27), .iaddr none 3 (.t 25) (.t 26), [1, 2], none⟩⟩,
   ⟨true, ⟨(some 28), .load (some 3) (.t 27), [3], none⟩⟩,
   ⟨true, ⟨(some 29), .mov (.t 1), [], none⟩⟩,
   ⟨true, ⟨(some 30), .call .heap (.t 24) [(.t 28), (.t 29)], [0, 4, 5], none⟩⟩,
   ⟨true, ⟨(some 31), .bin .lss (.t 30) (.c (.int .i64 (.ofNat 0))), [6], none⟩⟩] [] 2130706432)
 (.cond (.t 31)
  (.region [⟨true, ⟨(some 32), .mov (.t 11), [], none⟩⟩,
    ⟨true, ⟨(some 33), .bin .add (.t 32) (.c (.int .i64 (.ofNat 1))), [0], none⟩⟩,
    ⟨false, ⟨(some 9), .mov (.t 33), [1, 0, 1], none⟩⟩] [] 15032387584)
  (.region [⟨true, ⟨(some 34), .mov (.t 11), [], none⟩⟩,
    ⟨false, ⟨(some 10), .mov (.t 34), [0, 0], none⟩⟩] [] 19327354880))))))))
 (.seq (.region [⟨true, ⟨(some 35), .mov (.t 9), [], none⟩⟩,
   ⟨true, ⟨(some 36), .mov (.t 9), [], none⟩⟩,
   ⟨true, ⟨(some 37), .mov (.t 8), [], none⟩⟩,
   ⟨true, ⟨(some 38), .bin .lss (.t 36) (.t 37), [1, 2], none⟩⟩,
   ⟨true, ⟨(some 39), .mov (.t 38), [3], none⟩⟩,
   ⟨false, ⟨(some 40), .mov (.t 2), [4], (some (39, true))⟩⟩,
   ⟨false, ⟨(some 41), .mov (.t 0), [4], (some (39, true))⟩⟩,
   ⟨false, ⟨(some 42), .mov (.t 9), [4], (some (39, true))⟩⟩,
   ⟨false, ⟨(some 43), .iaddr none 3 (.t 41) (.t 42), [6, 7, 4], (some (39, true))⟩⟩,
   ⟨false, ⟨(some 44), .load (some 3) (.t 43), [8, 4], (some (39, true))⟩⟩,
   ⟨false, ⟨(some 45), .mov (.t 1), [4], (some (39, true))⟩⟩,
   ⟨false, ⟨(some 46), .call .heap (.t 40) [(.t 44), (.t 45)], [5, 9, 10, 4, 4], (some (39, true))⟩⟩,
   ⟨false, ⟨(some 47), .bin .eql (.t 46) (.c (.int .i64 (.ofNat 0))), [11, 4], (some (39, true))⟩⟩,
   ⟨true, ⟨(some 48), .pick (.t 39) (.t 47) (.c (.bool false)), [4, 12], none⟩⟩,
   ⟨true, ⟨(some 6), .mov (.t 35), [0, 11, 0], none⟩⟩,
   ⟨true, ⟨(some 7), .mov (.t 48), [13, 14, 0, 1, 2, 3, 4, 5, 6, 7, 8, 9, 10, 11, 12, 13, 14], none⟩⟩] [] 562915593684743)
 .ret)))))⟩
def f240 : FFn := ⟨9, [.tmp 4],
 (.seq (.region [⟨true, ⟨(some 2), .box .dyn (.t 0), [], none⟩⟩,
   ⟨true, ⟨(some 4), .mov (.c (.int .i64 (.ofNat 0))), [], none⟩⟩] [] 17)
 (.seq (.region [⟨true, ⟨(some 5), .faddr 0 (.t 2), [], none⟩⟩,
   ⟨true, ⟨(some 6), .load none (.t 5), [0], none⟩⟩,
   ⟨true, ⟨(some 7), .mov (.t 1), [], none⟩⟩,
   ⟨true, ⟨(some 8), .bin .sub (.t 6) (.t 7), [1, 2], none⟩⟩,
   ⟨true, ⟨(some 4), .mov (.t 8), [3, 0, 1, 2, 3], none⟩⟩] [] 486)
 .ret))⟩
def f241 : FFn := ⟨9, [.tmp 4],
 (.seq (.region [⟨true, ⟨(some 2), .box .dyn (.t 0), [], none⟩⟩,
   ⟨true, ⟨(some 4), .mov (.c (.int .i64 (.ofNat 0))), [], none⟩⟩] [] 17)
 (.seq (.region [⟨true, ⟨(some 5), .faddr 0 (.t 2), [], none⟩⟩,
   ⟨true, ⟨(some 6), .load none (.t 5), [0], none⟩⟩,
   ⟨true, ⟨(some 7), .mov (.t 1), [], none⟩⟩,
   ⟨true, ⟨(some 8), .bin .sub (.t 6) (.t 7), [1, 2], none⟩⟩,
   ⟨true, ⟨(some 4), .mov (.t 8), [3, 0, 1, 2, 3], none⟩⟩] [] 486)
 .ret))⟩
def f243 : FFn := ⟨7, [.tmp 2],
 (.seq (.region [⟨true, ⟨(some 2), .mov (.c (.int .u64 (.ofNat 0))), [], none⟩⟩] [] 4)
 (.seq (.region [⟨true, ⟨(some 3), .mov (.t 0), [], none⟩⟩,
   ⟨true, ⟨(some 4), .conv .u64 (.t 3), [0], none⟩⟩,
   ⟨true, ⟨(some 5), .call .heap (.f 144) [(.t 4)], [1], none⟩⟩,
   ⟨true, ⟨(some 6), .bin .shl (.c (.int .u64 (.ofNat 1))) (.t 5), [2], none⟩⟩,
   ⟨true, ⟨(some 2), .mov (.t 6), [3, 2, 0, 1, 2, 3], none⟩⟩] [] 121)
 .ret))⟩
def f244 : FFn := ⟨33, [.tmp 2],
 (.seq (.region [⟨true, ⟨(some 2), .mov (.c (.int .u64 (.ofNat 0))), [], none⟩⟩] [] 4)
 (.seq (.region [⟨true, ⟨(some 3), .mov (.t 0), [], none⟩⟩,
   ⟨true, ⟨(some 4), .nilchk (.t 3), [0], none⟩⟩,
   ⟨true, ⟨(some 5), .load none (.t 4), [1], none⟩⟩,
   ⟨true, ⟨(some 6), .mov (.t 0), [], none⟩⟩,
   ⟨true, ⟨(some 7), .nilchk (.t 6), [3], none⟩⟩,
   ⟨true, ⟨(some 8), .load none (.t 7), [4], none⟩⟩,
   ⟨true, ⟨(some 9), .bin .shl (.t 8) (.c (.int .u64 (.ofNat 13))), [5], none⟩⟩,
   ⟨true, ⟨(some 10), .bin .xor (.t 5) (.t 9), [2, 6], none⟩⟩,
   ⟨true, ⟨(some 11), .nilchk (.t 3), [0, 0, 1, 2, 3, 4, 5, 6, 7], none⟩⟩,
   ⟨false, ⟨none, .store 1 (.t 11) (.t 10), [8, 7, 0, 1, 2, 3, 4, 5, 6, 7], none⟩⟩] [] 4088)
 (.seq (.region [⟨true, ⟨(some 12), .mov (.t 0), [], none⟩⟩,
   ⟨true, ⟨(some 13), .nilchk (.t 12), [0], none⟩⟩,
   ⟨true, ⟨(some 14), .load none (.t 13), [1], none⟩⟩,
   ⟨true, ⟨(some 15), .mov (.t 0), [], none⟩⟩,
   ⟨true, ⟨(some 16), .nilchk (.t 15), [3], none⟩⟩,
   ⟨true, ⟨(some 17), .load none (.t 16), [4], none⟩⟩,
   ⟨true, ⟨(some 18), .bin .shr (.t 17) (.c (.int .u64 (.ofNat 7))), [5], none⟩⟩,
   ⟨true, ⟨(some 19), .bin .xor (.t 14) (.t 18), [2, 6], none⟩⟩,
   ⟨true, ⟨(some 20), .nilchk (.t 12), [0, 0, 1, 2, 3, 4, 5, 6, 7], none⟩⟩,
   ⟨false, ⟨none, .store 1 (.t 20) (.t 19), [8, 7, 0, 1, 2, 3, 4, 5, 6, 7], none⟩⟩] [] 2093056)
 (.seq (.region [⟨true, ⟨(some 21), .mov (.t 0), [], none⟩⟩,
   ⟨true, ⟨(some 22), .nilchk (.t 21), [0], none⟩⟩,
   ⟨true, ⟨(some 23), .load none (.t 22), [1], none⟩⟩,
   ⟨true, ⟨(some 24), .mov (.t 0), [], none⟩⟩,
   ⟨true, ⟨(some 25), .nilchk (.t 24), [3], none⟩⟩,
   ⟨true, ⟨(some 26), .load none (.t 25), [4], none⟩⟩,
   ⟨true, ⟨(some 27), .bin .shl (.t 26) (.c (.int .u64 (.ofNat 17))), [5], none⟩⟩,
   ⟨true, ⟨(some 28), .bin .xor (.t 23) (.t 27), [2, 6], none⟩⟩,
   ⟨true, ⟨(some 29), .nilchk (.t 21), [0, 0, 1, 2, 3, 4, 5, 6, 7], none⟩⟩,
   ⟨false, ⟨none, .store 1 (.t 29) (.t 28), [8, 7, 0, 1, 2, 3, 4, 5, 6, 7], none⟩⟩] [] 1071644672)
 (.seq (.region [⟨true, ⟨(some 30), .mov (.t 0), [], none⟩⟩,
   ⟨true, ⟨(some 31), .nilchk (.t 30), [0], none⟩⟩,
   ⟨true, ⟨(some 32), .load none (.t 31), [1], none⟩⟩,
   ⟨true, ⟨(some 2), .mov (.t 32), [2, 0, 1, 2], none⟩⟩] [] 7516192769)
 .ret)))))⟩
def f252 : FFn := ⟨15, [.tmp 2],
 (.seq (.region [⟨true, ⟨(some 2), .mov (.c (.str [])), [], none⟩⟩] [] 4)
 (.seq (.seq (.region [⟨true, ⟨(some 3), .mov (.t 0), [], none⟩⟩,
   ⟨true, ⟨(some 4), .bin .lss (.t 3) (.c (.int .i64 (.ofNat 10))), [0], none⟩⟩] [] 8)
 (.cond (.t 4)
  (.seq (.region [⟨true, ⟨(some 5), .mov (.t 0), [], none⟩⟩,
    ⟨true, ⟨(some 6), .mov (.t 0), [], none⟩⟩,
    ⟨true, ⟨(some 7), .bin .add (.t 6) (.c (.int .i64 (.ofNat 1))), [1], none⟩⟩,
    ⟨true, ⟨(some 8), .slice none (.c (.str [48, 49, 50, 51, 52, 53, 54, 55, 56, 57, 97, 98, 99, 100, 101, 102, 103, 104, 105, 106, 107, 108, 109, 110, 111, 112, 113, 114, 115, 116, 117, 118, 119, 120, 121, 122])) (some (.t 5)) (some (.t 7)) none, [0, 2], none⟩⟩,
    ⟨true, ⟨(some 2), .mov (.t 8), [3, 0, 1, 2, 3], none⟩⟩] [] 497)
  .ret)
  .skip))
 (.seq (.region [⟨true, ⟨(some 9), .mov (.t 0), [], none⟩⟩,
   ⟨true, ⟨(some 10), .bin .mul (.t 9) (.c (.int .i64 (.ofNat 2))), [0], none⟩⟩,
   ⟨true, ⟨(some 11), .mov (.t 0), [], none⟩⟩,
   ⟨true, ⟨(some 12), .bin .mul (.t 11) (.c (.int .i64 (.ofNat 2))), [2], none⟩⟩,
   ⟨true, ⟨(some 13), .bin .add (.t 12) (.c (.int .i64 (.ofNat 2))), [3], none⟩⟩,
   ⟨true, ⟨(some 14), .slice none (.c (.str [48, 48, 48, 49, 48, 50, 48, 51, 48, 52, 48, 53, 48, 54, 48, 55, 48, 56, 48, 57, 49, 48, 49, 49, 49, 50, 49, 51, 49, 52, 49, 53, 49, 54, 49, 55, 49, 56, 49, 57, 50, 48, 50, 49, 50, 50, 50, 51, 50, 52, 50, 53, 50, 54, 50, 55, 50, 56, 50, 57, 51, 48, 51, 49, 51, 50, 51, 51, 51, 52, 51, 53, 51, 54, 51, 55, 51, 56, 51, 57, 52, 48, 52, 49, 52, 50, 52, 51, 52, 52, 52, 53, 52, 54, 52, 55, 52, 56, 52, 57, 53, 48, 53, 49, 53, 50, 53, 51, 53, 52, 53, 53, 53, 54, 53, 55, 53, 56, 53, 57, 54, 48, 54, 49, 54, 50, 54, 51, 54, 52, 54, 53, 54, 54, 54, 55, 54, 56, 54, 57, 55, 48, 55, 49, 55, 50, 55, 51, 55, 52, 55, 53, 55, 54, 55, 55, 55, 56, 55, 57, 56, 48, 56, 49, 56, 50, 56, 51, 56, 52, 56, 53, 56, 54, 56, 55, 56, 56, 56, 57, 57, 48, 57, 49, 57, 50, 57, 51, 57, 52, 57, 53, 57, 54, 57, 55, 57, 56, 57, 57])) (some (.t 10)) (some (.t 13)) none, [1, 4], none⟩⟩,
   ⟨false, ⟨(some 2), .mov (.t 14), [5, 0, 1, 2, 3, 4, 5], none⟩⟩] [] 32273)
 .ret)))⟩
def f253 : FFn := ⟨15, [.tmp 2],
 (.seq (.region [⟨true, ⟨(some 2), .mov (.c (.int .i64 (.ofNat 0))), [], none⟩⟩] [] 4)
 (.seq (.region [⟨true, ⟨(some 4), .mov (.t 0), [], none⟩⟩,
   ⟨true, ⟨(some 5), .call .heap (.f 192) [(.t 4)], [0], none⟩⟩,
   ⟨true, ⟨(some 6), .call .heap (.f 289) [(.t 5)], [1, 1], none⟩⟩,
   ⟨true, ⟨(some 3), .mov (.t 6), [2, 2, 0, 1, 2], none⟩⟩] [] 112)
 (.seq (.region [⟨true, ⟨(some 7), .mov (.t 3), [], none⟩⟩,
   ⟨true, ⟨(some 8), .mov (.t 0), [], none⟩⟩,
   ⟨true, ⟨(some 9), .mov (.t 3), [], none⟩⟩,
   ⟨true, ⟨(some 10), .iaddr (some 20) 1 (.g 0) (.t 9), [2], none⟩⟩,
   ⟨true, ⟨(some 11), .load none (.t 10), [3], none⟩⟩,
   ⟨true, ⟨(some 12), .bin .geq (.t 8) (.t 11), [1, 4], none⟩⟩,
   ⟨true, ⟨(some 13), .call .heap (.f 290) [(.t 12)], [5], none⟩⟩,
   ⟨true, ⟨(some 14), .bin .add (.t 7) (.t 13), [0, 6], none⟩⟩,
   ⟨true, ⟨(some 2), .mov (.t 14), [7, 6, 0, 1, 2, 3, 4, 5, 6, 7], none⟩⟩] [] 32649)
 .ret)))⟩
def f254 : FFn := ⟨167, [],
 (.seq (.region [⟨true, ⟨(some 17), .mov (.t 0), [], none⟩⟩,
   ⟨true, ⟨(some 18), .len 1 (.t 17), [0], none⟩⟩,
   ⟨true, ⟨(some 4), .mov (.t 18), [1, 0, 1], none⟩⟩] [] 393216)
 (.seq (.block 0 (.loop (.seq (.seq (.region [⟨true, ⟨(some 19), .mov (.t 4), [], none⟩⟩,
   ⟨true, ⟨(some 20), .bin .geq (.t 19) (.c (.int .i64 (.ofNat 8))), [0], none⟩⟩] [] 524288)
 (.cond (.t 20)
  .skip
  (.exit 0)))
 (.block 1 (.seq (.region [⟨true, ⟨(some 21), .mov (.t 1), [], none⟩⟩,
   ⟨true, ⟨(some 22), .bin .rem (.t 21) (.c (.int .u64 (.ofNat 100000000))), [0], none⟩⟩,
   ⟨true, ⟨(some 23), .conv .u32 (.t 22), [1], none⟩⟩,
   ⟨true, ⟨(some 5), .mov (.t 23), [2, 0, 1, 2], none⟩⟩] [] 15728640)
 (.seq (.region [⟨true, ⟨(some 24), .mov (.t 1), [], none⟩⟩,
   ⟨true, ⟨(some 25), .bin .quo (.t 24) (.c (.int .u64 (.ofNat 100000000))), [0], none⟩⟩,
   ⟨false, ⟨(some 1), .mov (.t 25), [1, 0, 1], none⟩⟩] [] 50331648)
 (.seq (.region [⟨true, ⟨(some 26), .mov (.t 5), [], none⟩⟩,
   ⟨true, ⟨(some 27), .bin .quo (.t 26) (.c (.int .u32 (.ofNat 10000))), [0], none⟩⟩,
   ⟨true, ⟨(some 28), .mov (.t 5), [], none⟩⟩,
   ⟨true, ⟨(some 29), .bin .rem (.t 28) (.c (.int .u32 (.ofNat 10000))), [2], none⟩⟩,
   ⟨true, ⟨(some 6), .mov (.t 27), [1, 0, 1], none⟩⟩,
   ⟨true, ⟨(some 7), .mov (.t 29), [3, 4, 0, 1, 2, 3, 4], none⟩⟩] [] 1006632992)
 (.seq (.region [⟨true, ⟨(some 30), .mov (.t 7), [], none⟩⟩,
   ⟨true, ⟨(some 31), .bin .quo (.t 30) (.c (.int .u32 (.ofNat 100))), [0], none⟩⟩,
   ⟨true, ⟨(some 32), .bin .mul (.t 31) (.c (.int .u32 (.ofNat 2))), [1], none⟩⟩,
   ⟨true, ⟨(some 33), .mov (.t 7), [], none⟩⟩,
   ⟨true, ⟨(some 34), .bin .rem (.t 33) (.c (.int .u32 (.ofNat 100))), [3], none⟩⟩,
   ⟨true, ⟨(some 35), .bin .mul (.t 34) (.c (.int .u32 (.ofNat 2))), [4], none⟩⟩,
   ⟨true, ⟨(some 8), .mov (.t 32), [2, 0, 1, 2], none⟩⟩,
   ⟨true, ⟨(some 9), .mov (.t 35), [5, 6, 0, 1, 2, 3, 4, 5, 6], none⟩⟩] [] 67645735040)
 (.seq (.region [⟨true, ⟨(some 36), .mov (.t 6), [], none⟩⟩,
   ⟨true, ⟨(some 37), .bin .quo (.t 36) (.c (.int .u32 (.ofNat 100))), [0], none⟩⟩,
   ⟨true, ⟨(some 38), .bin .mul (.t 37) (.c (.int .u32 (.ofNat 2))), [1], none⟩⟩,
   ⟨true, ⟨(some 39), .mov (.t 6), [], none⟩⟩,
   ⟨true, ⟨(some 40), .bin .rem (.t 39) (.c (.int .u32 (.ofNat 100))), [3], none⟩⟩,
   ⟨true, ⟨(some 41), .bin .mul (.t 40) (.c (.int .u32 (.ofNat 2))), [4], none⟩⟩,
   ⟨true, ⟨(some 10), .mov (.t 38), [2, 0, 1, 2], none⟩⟩,
   ⟨true, ⟨(some 11), .mov (.t 41), [5, 6, 0, 1, 2, 3, 4, 5, 6], none⟩⟩] [] 4329327034432)
 (.seq (.region [⟨true, ⟨(some 42), .mov (.t 0), [], none⟩⟩,
   ⟨true, ⟨(some 43), .mov (.t 4), [], none⟩⟩,
   ⟨true, ⟨(some 44), .bin .sub (.t 43) (.c (.int .i64 (.ofNat 1))), [1], none⟩⟩,
   ⟨true, ⟨(some 45), .mov (.t 0), [], none⟩⟩,
   ⟨true, ⟨(some 46), .mov (.t 4), [], none⟩⟩,
   ⟨true, ⟨(some 47), .bin .sub (.t 46) (.c (.int .i64 (.ofNat 2))), [4], none⟩⟩,
   ⟨true, ⟨(some 48), .mov (.t 9), [], none⟩⟩,
   ⟨true, ⟨(some 49), .bin .add (.t 48) (.c (.int .u32 (.ofNat 1))), [6], none⟩⟩,
   ⟨true, ⟨(some 50), .index none (.c (.str [48, 48, 48, 49, 48, 50, 48, 51, 48, 52, 48, 53, 48, 54, 48, 55, 48, 56, 48, 57, 49, 48, 49, 49, 49, 50, 49, 51, 49, 52, 49, 53, 49, 54, 49, 55, 49, 56, 49, 57, 50, 48, 50, 49, 50, 50, 50, 51, 50, 52, 50, 53, 50, 54, 50, 55, 50, 56, 50, 57, 51, 48, 51, 49, 51, 50, 51, 51, 51, 52, 51, 53, 51, 54, 51, 55, 51, 56, 51, 57, 52, 48, 52, 49, 52, 50, 52, 51, 52, 52, 52, 53, 52, 54, 52, 55, 52, 56, 52, 57, 53, 48, 53, 49, 53, 50, 53, 51, 53, 52, 53, 53, 53, 54, 53, 55, 53, 56, 53, 57, 54, 48, 54, 49, 54, 50, 54, 51, 54, 52, 54, 53, 54, 54, 54, 55, 54, 56, 54, 57, 55, 48, 55, 49, 55, 50, 55, 51, 55, 52, 55, 53, 55, 54, 55, 55, 55, 56, 55, 57, 56, 48, 56, 49, 56, 50, 56, 51, 56, 52, 56, 53, 56, 54, 56, 55, 56, 56, 56, 57, 57, 48, 57, 49, 57, 50, 57, 51, 57, 52, 57, 53, 57, 54, 57, 55, 57, 56, 57, 57])) (.t 49), [7], none⟩⟩,
   ⟨true, ⟨(some 51), .mov (.t 9), [], none⟩⟩,
   ⟨true, ⟨(some 52), .index none (.c (.str [48, 48, 48, 49, 48, 50, 48, 51, 48, 52, 48, 53, 48, 54, 48, 55, 48, 56, 48, 57, 49, 48, 49, 49, 49, 50, 49, 51, 49, 52, 49, 53, 49, 54, 49, 55, 49, 56, 49, 57, 50, 48, 50, 49, 50, 50, 50, 51, 50, 52, 50, 53, 50, 54, 50, 55, 50, 56, 50, 57, 51, 48, 51, 49, 51, 50, 51, 51, 51, 52, 51, 53, 51, 54, 51, 55, 51, 56, 51, 57, 52, 48, 52, 49, 52, 50, 52, 51, 52, 52, 52, 53, 52, 54, 52, 55, 52, 56, 52, 57, 53, 48, 53, 49, 53, 50, 53, 51, 53, 52, 53, 53, 53, 54, 53, 55, 53, 56, 53, 57, 54, 48, 54, 49, 54, 50, 54, 51, 54, 52, 54, 53, 54, 54, 54, 55, 54, 56, 54, 57, 55, 48, 55, 49, 55, 50, 55, 51, 55, 52, 55, 53, 55, 54, 55, 55, 55, 56, 55, 57, 56, 48, 56, 49, 56, 50, 56, 51, 56, 52, 56, 53, 56, 54, 56, 55, 56, 56, 56, 57, 57, 48, 57, 49, 57, 50, 57, 51, 57, 52, 57, 53, 57, 54, 57, 55, 57, 56, 57, 57])) (.t 51), [9], none⟩⟩,
   ⟨true, ⟨(some 53), .iaddr none 1 (.t 42) (.t 44), [0, 2, 0, 1, 2, 6, 7, 8], none⟩⟩,
   ⟨false, ⟨none, .store 1 (.t 53) (.t 50), [11, 8, 0, 1, 2, 6, 7, 8], none⟩⟩,
   ⟨true, ⟨(some 54), .iaddr none 1 (.t 45) (.t 47), [3, 5, 0, 1, 2, 3, 4, 5, 6, 7, 8, 9, 10, 11, 12], none⟩⟩,
   ⟨false, ⟨none, .store 1 (.t 54) (.t 52), [13, 10, 12, 0, 1, 2, 3, 4, 5, 6, 7, 8, 9, 10, 11, 12], none⟩⟩] [] 36024398972453376)
 (.seq (.region [⟨true, ⟨(some 55), .mov (.t 0), [], none⟩⟩,
   ⟨true, ⟨(some 56), .mov (.t 4), [], none⟩⟩,
   ⟨true, ⟨(some 57), .bin .sub (.t 56) (.c (.int .i64 (.ofNat 3))), [1], none⟩⟩,
   ⟨true, ⟨(some 58), .mov (.t 0), [], none⟩⟩,
   ⟨true, ⟨(some 59), .mov (.t 4), [], none⟩⟩,
   ⟨true, ⟨(some 60), .bin .sub (.t 59) (.c (.int .i64 (.ofNat 4))), [4], none⟩⟩,
   ⟨true, ⟨(some 61), .mov (.t 8), [], none⟩⟩,
   ⟨true, ⟨(some 62), .bin .add (.t 61) (.c (.int .u32 (.ofNat 1))), [6], none⟩⟩,
   ⟨true, ⟨(some 63), .index none (.c (.str [48, 48, 48, 49, 48, 50, 48, 51, 48, 52, 48, 53, 48, 54, 48, 55, 48, 56, 48, 57, 49, 48, 49, 49, 49, 50, 49, 51, 49, 52, 49, 53, 49, 54, 49, 55, 49, 56, 49, 57, 50, 48, 50, 49, 50, 50, 50, 51, 50, 52, 50, 53, 50, 54, 50, 55, 50, 56, 50, 57, 51, 48, 51, 49, 51, 50, 51, 51, 51, 52, 51, 53, 51, 54, 51, 55, 51, 56, 51, 57, 52, 48, 52, 49, 52, 50, 52, 51, 52, 52, 52, 53, 52, 54, 52, 55, 52, 56, 52, 57, 53, 48, 53, 49, 53, 50, 53, 51, 53, 52, 53, 53, 53, 54, 53, 55, 53, 56, 53, 57, 54, 48, 54, 49, 54, 50, 54, 51, 54, 52, 54, 53, 54, 54, 54, 55, 54, 56, 54, 57, 55, 48, 55, 49, 55, 50, 55, 51, 55, 52, 55, 53, 55, 54, 55, 55, 55, 56, 55, 57, 56, 48, 56, 49, 56, 50, 56, 51, 56, 52, 56, 53, 56, 54, 56, 55, 56, 56, 56, 57, 57, 48, 57, 49, 57, 50, 57, 51, 57, 52, 57, 53, 57, 54, 57, 55, 57, 56, 57, 57])) (.t 62), [7], none⟩⟩,
   ⟨true, ⟨(some 64), .mov (.t 8), [], none⟩⟩,
   ⟨true, ⟨(some 65), .index none (.c (.str [48, 48, 48, 49, 48, 50, 48, 51, 48, 52, 48, 53, 48, 54, 48, 55, 48, 56, 48, 57, 49, 48, 49, 49, 49, 50, 49, 51, 49, 52, 49, 53, 49, 54, 49, 55, 49, 56, 49, 57, 50, 48, 50, 49, 50, 50, 50, 51, 50, 52, 50, 53, 50, 54, 50, 55, 50, 56, 50, 57, 51, 48, 51, 49, 51, 50, 51, 51, 51, 52, 51, 53, 51, 54, 51, 55, 51, 56, 51, 57, 52, 48, 52, 49, 52, 50, 52, 51, 52, 52, 52, 53, 52, 54, 52, 55, 52, 56, 52, 57, 53, 48, 53, 49, 53, 50, 53, 51, 53, 52, 53, 53, 53, 54, 53, 55, 53, 56, 53, 57, 54, 48, 54, 49, 54, 50, 54, 51, 54, 52, 54, 53, 54, 54, 54, 55, 54, 56, 54, 57, 55, 48, 55, 49, 55, 50, 55, 51, 55, 52, 55, 53, 55, 54, 55, 55, 55, 56, 55, 57, 56, 48, 56, 49, 56, 50, 56, 51, 56, 52, 56, 53, 56, 54, 56, 55, 56, 56, 56, 57, 57, 48, 57, 49, 57, 50, 57, 51, 57, 52, 57, 53, 57, 54, 57, 55, 57, 56, 57, 57])) (.t 64), [9], none⟩⟩,
   ⟨true, ⟨(some 66), .iaddr none 1 (.t 55) (.t 57), [0, 2, 0, 1, 2, 6, 7, 8], none⟩⟩,
   ⟨false, ⟨none, .store 1 (.t 66) (.t 63), [11, 8, 0, 1, 2, 6, 7, 8], none⟩⟩,
   ⟨true, ⟨(some 67), .iaddr none 1 (.t 58) (.t 60), [3, 5, 0, 1, 2, 3, 4, 5, 6, 7, 8, 9, 10, 11, 12], none⟩⟩,
   ⟨false, ⟨none, .store 1 (.t 67) (.t 65), [13, 10, 12, 0, 1, 2, 3, 4, 5, 6, 7, 8, 9, 10, 11, 12], none⟩⟩] [] 295111876382333862144)
 (.seq (.region [⟨true, ⟨(some 68), .mov (.t 0), [], none⟩⟩,
   ⟨true, ⟨(some 69), .mov (.t 4), [], none⟩⟩,
   ⟨true, ⟨(some 70), .bin .sub (.t 69) (.c (.int .i64 (.ofNat 5))), [1], none⟩⟩,
   ⟨true, ⟨(some 71), .mov (.t 0), [], none⟩⟩,
   ⟨true, ⟨(some 72), .mov (.t 4), [], none⟩⟩,
   ⟨true, ⟨(some 73), .bin .sub (.t 72) (.c (.int .i64 (.ofNat 6))), [4], none⟩⟩,
   ⟨true, ⟨(some 74), .mov (.t 11), [], none⟩⟩,
   ⟨true, ⟨(some 75), .bin .add (.t 74) (.c (.int .u32 (.ofNat 1))), [6], none⟩⟩,
   ⟨true, ⟨(some 76), .index none (.c (.str [48, 48, 48, 49, 48, 50, 48, 51, 48, 52, 48, 53, 48, 54, 48, 55, 48, 56, 48, 57, 49, 48, 49, 49, 49, 50, 49, 51, 49, 52, 49, 53, 49, 54, 49, 55, 49, 56, 49, 57, 50, 48, 50, 49, 50, 50, 50, 51, 50, 52, 50, 53, 50, 54, 50, 55, 50, 56, 50, 57, 51, 48, 51, 49, 51, 50, 51, 51, 51, 52, 51, 53, 51, 54, 51, 55, 51, 56, 51, 57, 52, 48, 52, 49, 52, 50, 52, 51, 52, 52, 52, 53, 52, 54, 52, 55, 52, 56, 52, 57, 53, 48, 53, 49, 53, 50, 53, 51, 53, 52, 53, 53, 53, 54, 53, 55, 53, 56, 53, 57, 54, 48, 54, 49, 54, 50, 54, 51, 54, 52, 54, 53, 54, 54, 54, 55, 54, 56, 54, 57, 55, 48, 55, 49, 55, 50, 55, 51, 55, 52, 55, 53, 55, 54, 55, 55, 55, 56, 55, 57, 56, 48, 56, 49, 56, 50, 56, 51, 56, 52, 56, 53, 56, 54, 56, 55, 56, 56, 56, 57, 57, 48, 57, 49, 57, 50, 57, 51, 57, 52, 57, 53, 57, 54, 57, 55, 57, 56, 57, 57])) (.t 75), [7], none⟩⟩,
   ⟨true, ⟨(some 77), .mov (.t 11), [], none⟩⟩,
   ⟨true, ⟨(some 78), .index none (.c (.str [48, 48, 48, 49, 48, 50, 48, 51, 48, 52, 48, 53, 48, 54, 48, 55, 48, 56, 48, 57, 49, 48, 49, 49, 49, 50, 49, 51, 49, 52, 49, 53, 49, 54, 49, 55, 49, 56, 49, 57, 50, 48, 50, 49, 50, 50, 50, 51, 50, 52, 50, 53, 50, 54, 50, 55, 50, 56, 50, 57, 51, 48, 51, 49, 51, 50, 51, 51, 51, 52, 51, 53, 51, 54, 51, 55, 51, 56, 51, 57, 52, 48, 52, 49, 52, 50, 52, 51, 52, 52, 52, 53, 52, 54, 52, 55, 52, 56, 52, 57, 53, 48, 53, 49, 53, 50, 53, 51, 53, 52, 53, 53, 53, 54, 53, 55, 53, 56, 53, 57, 54, 48, 54, 49, 54, 50, 54, 51, 54, 52, 54, 53, 54, 54, 54, 55, 54, 56, 54, 57, 55, 48, 55, 49, 55, 50, 55, 51, 55, 52, 55, 53, 55, 54, 55, 55, 55, 56, 55, 57, 56, 48, 56, 49, 56, 50, 56, 51, 56, 52, 56, 53, 56, 54, 56, 55, 56, 56, 56, 57, 57, 48, 57, 49, 57, 50, 57, 51, 57, 52, 57, 53, 57, 54, 57, 55, 57, 56, 57, 57])) (.t 77), [9], none⟩⟩,
   ⟨true, ⟨(some 79), .iaddr none 1 (.t 68) (.t 70), [0, 2, 0, 1, 2, 6, 7, 8], none⟩⟩,
   ⟨false, ⟨none, .store 1 (.t 79) (.t 76), [11, 8, 0, 1, 2, 6, 7, 8], none⟩⟩,
   ⟨true, ⟨(some 80), .iaddr none 1 (.t 71) (.t 73), [3, 5, 0, 1, 2, 3, 4, 5, 6, 7, 8, 9, 10, 11, 12], none⟩⟩,
   ⟨false, ⟨none, .store 1 (.t 80) (.t 78), [13, 10, 12, 0, 1, 2, 3, 4, 5, 6, 7, 8, 9, 10, 11, 12], none⟩⟩] [] 2417556491324078996588544)
 (.seq (.region [⟨true, ⟨(some 81), .mov (.t 0), [], none⟩⟩,
   ⟨true, ⟨(some 82), .mov (.t 4), [], none⟩⟩,
   ⟨true, ⟨(some 83), .bin .sub (.t 82) (.c (.int .i64 (.ofNat 7))), [1], none⟩⟩,
   ⟨true, ⟨(some 84), .mov (.t 0), [], none⟩⟩,
   ⟨true, ⟨(some 85), .mov (.t 4), [], none⟩⟩,
   ⟨true, ⟨(some 86), .bin .sub (.t 85) (.c (.int .i64 (.ofNat 8))), [4], none⟩⟩,
   ⟨true, ⟨(some 87), .mov (.t 10), [], none⟩⟩,
   ⟨true, ⟨(some 88), .bin .add (.t 87) (.c (.int .u32 (.ofNat 1))), [6], none⟩⟩,
   ⟨true, ⟨(some 89), .index none (.c (.str [48, 48, 48, 49, 48, 50, 48, 51, 48, 52, 48, 53, 48, 54, 48, 55, 48, 56, 48, 57, 49, 48, 49, 49, 49, 50, 49, 51, 49, 52, 49, 53, 49, 54, 49, 55, 49, 56, 49, 57, 50, 48, 50, 49, 50, 50, 50, 51, 50, 52, 50, 53, 50, 54, 50, 55, 50, 56, 50, 57, 51, 48, 51, 49, 51, 50, 51, 51, 51, 52, 51, 53, 51, 54, 51, 55, 51, 56, 51, 57, 52, 48, 52, 49, 52, 50, 52, 51, 52, 52, 52, 53, 52, 54, 52, 55, 52, 56, 52, 57, 53, 48, 53, 49, 53, 50, 53, 51, 53, 52, 53, 53, 53, 54, 53, 55, 53, 56, 53, 57, 54, 48, 54, 49, 54, 50, 54, 51, 54, 52, 54, 53, 54, 54, 54, 55, 54, 56, 54, 57, 55, 48, 55, 49, 55, 50, 55, 51, 55, 52, 55, 53, 55, 54, 55, 55, 55, 56, 55, 57, 56, 48, 56, 49, 56, 50, 56, 51, 56, 52, 56, 53, 56, 54, 56, 55, 56, 56, 56, 57, 57, 48, 57, 49, 57, 50, 57, 51, 57, 52, 57, 53, 57, 54, 57, 55, 57, 56, 57, 57])) (.t 88), [7], none⟩⟩,
   ⟨true, ⟨(some 90), .mov (.t 10), [], none⟩⟩,
   ⟨true, ⟨(some 91), .index none (.c (.str [48, 48, 48, 49, 48, 50, 48, 51, 48, 52, 48, 53, 48, 54, 48, 55, 48, 56, 48, 57, 49, 48, 49, 49, 49, 50, 49, 51, 49, 52, 49, 53, 49, 54, 49, 55, 49, 56, 49, 57, 50, 48, 50, 49, 50, 50, 50, 51, 50, 52, 50, 53, 50, 54, 50, 55, 50, 56, 50, 57, 51, 48, 51, 49, 51, 50, 51, 51, 51, 52, 51, 53, 51, 54, 51, 55, 51, 56, 51, 57, 52, 48, 52, 49, 52, 50, 52, 51, 52, 52, 52, 53, 52, 54, 52, 55, 52, 56, 52, 57, 53, 48, 53, 49, 53, 50, 53, 51, 53, 52, 53, 53, 53, 54, 53, 55, 53, 56, 53, 57, 54, 48, 54, 49, 54, 50, 54, 51, 54, 52, 54, 53, 54, 54, 54, 55, 54, 56, 54, 57, 55, 48, 55, 49, 55, 50, 55, 51, 55, 52, 55, 53, 55, 54, 55, 55, 55, 56, 55, 57, 56, 48, 56, 49, 56, 50, 56, 51, 56, 52, 56, 53, 56, 54, 56, 55, 56, 56, 56, 57, 57, 48, 57, 49, 57, 50, 57, 51, 57, 52, 57, 53, 57, 54, 57, 55, 57, 56, 57, 57])) (.t 90), [9], none⟩⟩,
   ⟨true, ⟨(some 92), .iaddr none 1 (.t 81) (.t 83), [0, 2, 0, 1, 2, 6, 7, 8], none⟩⟩,
   ⟨false, ⟨none, .store 1 (.t 92) (.t 89), [11, 8, 0, 1, 2, 6, 7, 8], none⟩⟩,
   ⟨true, ⟨(some 93), .iaddr none 1 (.t 84) (.t 86), [3, 5, 0, 1, 2, 3, 4, 5, 6, 7, 8, 9, 10, 11, 12], none⟩⟩,
   ⟨false, ⟨none, .store 1 (.t 93) (.t 91), [13, 10, 12, 0, 1, 2, 3, 4, 5, 6, 7, 8, 9, 10, 11, 12], none⟩⟩] [] 19804622776926855140036576256)
 (.region [⟨true, ⟨(some 94), .mov (.t 4), [], none⟩⟩,
   ⟨true, ⟨(some 95), .bin .sub (.t 94) (.c (.int .i64 (.ofNat 8))), [0], none⟩⟩,
   ⟨false, ⟨(some 4), .mov (.t 95), [1, 0, 1], none⟩⟩] [] 59421121885698253195157962752))))))))))))))
 (.seq (.region [⟨true, ⟨(some 96), .mov (.t 1), [], none⟩⟩,
   ⟨true, ⟨(some 97), .conv .u32 (.t 96), [0], none⟩⟩,
   ⟨true, ⟨(some 12), .mov (.t 97), [1, 0, 1], none⟩⟩] [] 237684487542793012780631851010)
 (.seq (.seq (.region [⟨true, ⟨(some 98), .mov (.t 4), [], none⟩⟩,
   ⟨true, ⟨(some 99), .bin .geq (.t 98) (.c (.int .i64 (.ofNat 4))), [0], none⟩⟩] [] 316912650057057350374175801344)
 (.cond (.t 99)
  (.seq (.region [⟨true, ⟨(some 100), .mov (.t 12), [], none⟩⟩,
    ⟨true, ⟨(some 101), .bin .rem (.t 100) (.c (.int .u32 (.ofNat 10000))), [0], none⟩⟩,
    ⟨true, ⟨(some 13), .mov (.t 101), [1, 0, 1], none⟩⟩] [] 4436777100798802905238461218816)
  (.seq (.region [⟨true, ⟨(some 102), .mov (.t 12), [], none⟩⟩,
    ⟨true, ⟨(some 103), .bin .quo (.t 102) (.c (.int .u32 (.ofNat 10000))), [0], none⟩⟩,
    ⟨false, ⟨(some 12), .mov (.t 103), [1, 0, 1], none⟩⟩] [] 15211807202738752817960438464512)
  (.seq (.region [⟨true, ⟨(some 104), .mov (.t 13), [], none⟩⟩,
    ⟨true, ⟨(some 105), .bin .quo (.t 104) (.c (.int .u32 (.ofNat 100))), [0], none⟩⟩,
    ⟨true, ⟨(some 106), .bin .mul (.t 105) (.c (.int .u32 (.ofNat 2))), [1], none⟩⟩,
    ⟨true, ⟨(some 107), .mov (.t 13), [], none⟩⟩,
    ⟨true, ⟨(some 108), .bin .rem (.t 107) (.c (.int .u32 (.ofNat 100))), [3], none⟩⟩,
    ⟨true, ⟨(some 109), .bin .mul (.t 108) (.c (.int .u32 (.ofNat 2))), [4], none⟩⟩,
    ⟨true, ⟨(some 14), .mov (.t 106), [2, 0, 1, 2], none⟩⟩,
    ⟨true, ⟨(some 15), .mov (.t 109), [5, 6, 0, 1, 2, 3, 4, 5, 6], none⟩⟩] [] 1277791805030055236708676831027200)
  (.seq (.region [⟨true, ⟨(some 110), .mov (.t 0), [], none⟩⟩,
    ⟨true, ⟨(some 111), .mov (.t 4), [], none⟩⟩,
    ⟨true, ⟨(some 112), .bin .sub (.t 111) (.c (.int .i64 (.ofNat 1))), [1], none⟩⟩,
    ⟨true, ⟨(some 113), .mov (.t 0), [], none⟩⟩,
    ⟨true, ⟨(some 114), .mov (.t 4), [], none⟩⟩,
    ⟨true, ⟨(some 115), .bin .sub (.t 114) (.c (.int .i64 (.ofNat 2))), [4], none⟩⟩,
    ⟨true, ⟨(some 116), .mov (.t 15), [], none⟩⟩,
    ⟨true, ⟨(some 117), .bin .add (.t 116) (.c (.int .u32 (.ofNat 1))), [6], none⟩⟩,
    ⟨true, ⟨(some 118), .index none (.c (.str [48, 48, 48, 49, 48, 50, 48, 51, 48, 52, 48, 53, 48, 54, 48, 55, 48, 56, 48, 57, 49, 48, 49, 49, 49, 50, 49, 51, 49, 52, 49, 53, 49, 54, 49, 55, 49, 56, 49, 57, 50, 48, 50, 49, 50, 50, 50, 51, 50, 52, 50, 53, 50, 54, 50, 55, 50, 56, 50, 57, 51, 48, 51, 49, 51, 50, 51, 51, 51, 52, 51, 53, 51, 54, 51, 55, 51, 56, 51, 57, 52, 48, 52, 49, 52, 50, 52, 51, 52, 52, 52, 53, 52, 54, 52, 55, 52, 56, 52, 57, 53, 48, 53, 49, 53, 50, 53, 51, 53, 52, 53, 53, 53, 54, 53, 55, 53, 56, 53, 57, 54, 48, 54, 49, 54, 50, 54, 51, 54, 52, 54, 53, 54, 54, 54, 55, 54, 56, 54, 57, 55, 48, 55, 49, 55, 50, 55, 51, 55, 52, 55, 53, 55, 54, 55, 55, 55, 56, 55, 57, 56, 48, 56, 49, 56, 50, 56, 51, 56, 52, 56, 53, 56, 54, 56, 55, 56, 56, 56, 57, 57, 48, 57, 49, 57, 50, 57, 51, 57, 52, 57, 53, 57, 54, 57, 55, 57, 56, 57, 57])) (.t 117), [7], none⟩⟩,
    ⟨true, ⟨(some 119), .mov (.t 15), [], none⟩⟩,
    ⟨true, ⟨(some 120), .index none (.c (.str [48, 48, 48, 49, 48, 50, 48, 51, 48, 52, 48, 53, 48, 54, 48, 55, 48, 56, 48, 57, 49, 48, 49, 49, 49, 50, 49, 51, 49, 52, 49, 53, 49, 54, 49, 55, 49, 56, 49, 57, 50, 48, 50, 49, 50, 50, 50, 51, 50, 52, 50, 53, 50, 54, 50, 55, 50, 56, 50, 57, 51, 48, 51, 49, 51, 50, 51, 51, 51, 52, 51, 53, 51, 54, 51, 55, 51, 56, 51, 57, 52, 48, 52, 49, 52, 50, 52, 51, 52, 52, 52, 53, 52, 54, 52, 55, 52, 56, 52, 57, 53, 48, 53, 49, 53, 50, 53, 51, 53, 52, 53, 53, 53, 54, 53, 55, 53, 56, 53, 57, 54, 48, 54, 49, 54, 50, 54, 51, 54, 52, 54, 53, 54, 54, 54, 55, 54, 56, 54, 57, 55, 48, 55, 49, 55, 50, 55, 51, 55, 52, 55, 53, 55, 54, 55, 55, 55, 56, 55, 57, 56, 48, 56, 49, 56, 50, 56, 51, 56, 52, 56, 53, 56, 54, 56, 55, 56, 56, 56, 57, 57, 48, 57, 49, 57, 50, 57, 51, 57, 52, 57, 53, 57, 54, 57, 55, 57, 56, 57, 57])) (.t 119), [9], none⟩⟩,
    ⟨true, ⟨(some 121), .iaddr none 1 (.t 110) (.t 112), [0, 2, 0, 1, 2, 6, 7, 8], none⟩⟩,
    ⟨false, ⟨none, .store 1 (.t 121) (.t 118), [11, 8, 0, 1, 2, 6, 7, 8], none⟩⟩,
    ⟨true, ⟨(some 122), .iaddr none 1 (.t 113) (.t 115), [3, 5, 0, 1, 2, 3, 4, 5, 6, 7, 8, 9, 10, 11, 12], none⟩⟩,
    ⟨false, ⟨none, .store 1 (.t 122) (.t 120), [13, 10, 12, 0, 1, 2, 3, 4, 5, 6, 7, 8, 9, 10, 11, 12], none⟩⟩] [] 10632525892064693276323323858160484352)
  (.seq (.region [⟨true, ⟨(some 123), .mov (.t 0), [], none⟩⟩,
    ⟨true, ⟨(some 124), .mov (.t 4), [], none⟩⟩,
    ⟨true, ⟨(some 125), .bin .sub (.t 124) (.c (.int .i64 (.ofNat 3))), [1], none⟩⟩,
    ⟨true, ⟨(some 126), .mov (.t 0), [], none⟩⟩,
    ⟨true, ⟨(some 127), .mov (.t 4), [], none⟩⟩,
    ⟨true, ⟨(some 128), .bin .sub (.t 127) (.c (.int .i64 (.ofNat 4))), [4], none⟩⟩,
    ⟨true, ⟨(some 129), .mov (.t 14), [], none⟩⟩,
    ⟨true, ⟨(some 130), .bin .add (.t 129) (.c (.int .u32 (.ofNat 1))), [6], none⟩⟩,
    ⟨true, ⟨(some 131), .index none (.c (.str [48, 48, 48, 49, 48, 50, 48, 51, 48, 52, 48, 53, 48, 54, 48, 55, 48, 56, 48, 57, 49, 48, 49, 49, 49, 50, 49, 51, 49, 52, 49, 53, 49, 54, 49, 55, 49, 56, 49, 57, 50, 48, 50, 49, 50, 50, 50, 51, 50, 52, 50, 53, 50, 54, 50, 55, 50, 56, 50, 57, 51, 48, 51, 49, 51, 50, 51, 51, 51, 52, 51, 53, 51, 54, 51, 55, 51, 56, 51, 57, 52, 48, 52, 49, 52, 50, 52, 51, 52, 52, 52, 53, 52, 54, 52, 55, 52, 56, 52, 57, 53, 48, 53, 49, 53, 50, 53, 51, 53, 52, 53, 53, 53, 54, 53, 55, 53, 56, 53, 57, 54, 48, 54, 49, 54, 50, 54, 51, 54, 52, 54, 53, 54, 54, 54, 55, 54, 56, 54, 57, 55, 48, 55, 49, 55, 50, 55, 51, 55, 52, 55, 53, 55, 54, 55, 55, 55, 56, 55, 57, 56, 48, 56, 49, 56, 50, 56, 51, 56, 52, 56, 53, 56, 54, 56, 55, 56, 56, 56, 57, 57, 48, 57, 49, 57, 50, 57, 51, 57, 52, 57, 53, 57, 54, 57, 55, 57, 56, 57, 57])) (.t 130), [7], none⟩⟩,
    ⟨true, ⟨(some 132), .mov (.t 14), [], none⟩⟩,
    ⟨true, ⟨(some 133), .index none (.c (.str [48, 48, 48, 49, 48, 50, 48, 51, 48, 52, 48, 53, 48, 54, 48, 55, 48, 56, 48, 57, 49, 48, 49, 49, 49, 50, 49, 51, 49, 52, 49, 53, 49, 54, 49, 55, 49, 56, 49, 57, 50, 48, 50, 49, 50, 50, 50, 51, 50, 52, 50, 53, 50, 54, 50, 55, 50, 56, 50, 57, 51, 48, 51, 49, 51, 50, 51, 51, 51, 52, 51, 53, 51, 54, 51, 55, 51, 56, 51, 57, 52, 48, 52, 49, 52, 50, 52, 51, 52, 52, 52, 53, 52, 54, 52, 55, 52, 56, 52, 57, 53, 48, 53, 49, 53, 50, 53, 51, 53, 52, 53, 53, 53, 54, 53, 55, 53, 56, 53, 57, 54, 48, 54, 49, 54, 50, 54, 51, 54, 52, 54, 53, 54, 54, 54, 55, 54, 56, 54, 57, 55, 48, 55, 49, 55, 50, 55, 51, 55, 52, 55, 53, 55, 54, 55, 55, 55, 56, 55, 57, 56, 48, 56, 49, 56, 50, 56, 51, 56, 52, 56, 53, 56, 54, 56, 55, 56, 56, 56, 57, 57, 48, 57, 49, 57, 50, 57, 51, 57, 52, 57, 53, 57, 54, 57, 55, 57, 56, 57, 57])) (.t 132), [9], none⟩⟩,
    ⟨true, ⟨(some 134), .iaddr none 1 (.t 123) (.t 125), [0, 2, 0, 1, 2, 6, 7, 8], none⟩⟩,
    ⟨false, ⟨none, .store 1 (.t 134) (.t 131), [11, 8, 0, 1, 2, 6, 7, 8], none⟩⟩,
    ⟨true, ⟨(some 135), .iaddr none 1 (.t 126) (.t 128), [3, 5, 0, 1, 2, 3, 4, 5, 6, 7, 8, 9, 10, 11, 12], none⟩⟩,
    ⟨false, ⟨none, .store 1 (.t 135) (.t 133), [13, 10, 12, 0, 1, 2, 3, 4, 5, 6, 7, 8, 9, 10, 11, 12], none⟩⟩] [] 87101652107793967319640669046050419392512)
  (.region [⟨true, ⟨(some 136), .mov (.t 4), [], none⟩⟩,
    ⟨true, ⟨(some 137), .bin .sub (.t 136) (.c (.int .i64 (.ofNat 4))), [0], none⟩⟩,
    ⟨false, ⟨(some 4), .mov (.t 137), [1, 0, 1], none⟩⟩] [] 261336857795280739939871698507597986398208))))))
  .skip))
 (.seq (.seq (.region [⟨true, ⟨(some 138), .mov (.t 4), [], none⟩⟩,
   ⟨true, ⟨(some 139), .bin .geq (.t 138) (.c (.int .i64 (.ofNat 2))), [0], none⟩⟩] [] 348449143727674811886609712710879000133632)
 (.cond (.t 139)
  (.seq (.region [⟨true, ⟨(some 140), .mov (.t 12), [], none⟩⟩,
    ⟨true, ⟨(some 141), .bin .rem (.t 140) (.c (.int .u32 (.ofNat 100))), [0], none⟩⟩,
    ⟨true, ⟨(some 142), .bin .mul (.t 141) (.c (.int .u32 (.ofNat 2))), [1], none⟩⟩,
    ⟨true, ⟨(some 16), .mov (.t 142), [2, 0, 1, 2], none⟩⟩] [] 10453474311811229597594867940303919455928320)
  (.seq (.region [⟨true, ⟨(some 143), .mov (.t 12), [], none⟩⟩,
    ⟨true, ⟨(some 144), .bin .quo (.t 143) (.c (.int .u32 (.ofNat 100))), [0], none⟩⟩,
    ⟨false, ⟨(some 12), .mov (.t 144), [1, 0, 1], none⟩⟩] [] 33451117797795934712303577408972542258970624)
  (.seq (.region [⟨true, ⟨(some 145), .mov (.t 0), [], none⟩⟩,
    ⟨true, ⟨(some 146), .mov (.t 4), [], none⟩⟩,
    ⟨true, ⟨(some 147), .bin .sub (.t 146) (.c (.int .i64 (.ofNat 1))), [1], none⟩⟩,
    ⟨true, ⟨(some 148), .mov (.t 0), [], none⟩⟩,
    ⟨true, ⟨(some 149), .mov (.t 4), [], none⟩⟩,
    ⟨true, ⟨(some 150), .bin .sub (.t 149) (.c (.int .i64 (.ofNat 2))), [4], none⟩⟩,
    ⟨true, ⟨(some 151), .mov (.t 16), [], none⟩⟩,
    ⟨true, ⟨(some 152), .bin .add (.t 151) (.c (.int .u32 (.ofNat 1))), [6], none⟩⟩,
    ⟨true, ⟨(some 153), .index none (.c (.str [48, 48, 48, 49, 48, 50, 48, 51, 48, 52, 48, 53, 48, 54, 48, 55, 48, 56, 48, 57, 49, 48, 49, 49, 49, 50, 49, 51, 49, 52, 49, 53, 49, 54, 49, 55, 49, 56, 49, 57, 50, 48, 50, 49, 50, 50, 50, 51, 50, 52, 50, 53, 50, 54, 50, 55, 50, 56, 50, 57, 51, 48, 51, 49, 51, 50, 51, 51, 51, 52, 51, 53, 51, 54, 51, 55, 51, 56, 51, 57, 52, 48, 52, 49, 52, 50, 52, 51, 52, 52, 52, 53, 52, 54, 52, 55, 52, 56, 52, 57, 53, 48, 53, 49, 53, 50, 53, 51, 53, 52, 53, 53, 53, 54, 53, 55, 53, 56, 53, 57, 54, 48, 54, 49, 54, 50, 54, 51, 54, 52, 54, 53, 54, 54, 54, 55, 54, 56, 54, 57, 55, 48, 55, 49, 55, 50, 55, 51, 55, 52, 55, 53, 55, 54, 55, 55, 55, 56, 55, 57, 56, 48, 56, 49, 56, 50, 56, 51, 56, 52, 56, 53, 56, 54, 56, 55, 56, 56, 56, 57, 57, 48, 57, 49, 57, 50, 57, 51, 57, 52, 57, 53, 57, 54, 57, 55, 57, 56, 57, 57])) (.t 152), [7], none⟩⟩,
    ⟨true, ⟨(some 154), .mov (.t 16), [], none⟩⟩,
    ⟨true, ⟨(some 155), .index none (.c (.str [48, 48, 48, 49, 48, 50, 48, 51, 48, 52, 48, 53, 48, 54, 48, 55, 48, 56, 48, 57, 49, 48, 49, 49, 49, 50, 49, 51, 49, 52, 49, 53, 49, 54, 49, 55, 49, 56, 49, 57, 50, 48, 50, 49, 50, 50, 50, 51, 50, 52, 50, 53, 50, 54, 50, 55, 50, 56, 50, 57, 51, 48, 51, 49, 51, 50, 51, 51, 51, 52, 51, 53, 51, 54, 51, 55, 51, 56, 51, 57, 52, 48, 52, 49, 52, 50, 52, 51, 52, 52, 52, 53, 52, 54, 52, 55, 52, 56, 52, 57, 53, 48, 53, 49, 53, 50, 53, 51, 53, 52, 53, 53, 53, 54, 53, 55, 53, 56, 53, 57, 54, 48, 54, 49, 54, 50, 54, 51, 54, 52, 54, 53, 54, 54, 54, 55, 54, 56, 54, 57, 55, 48, 55, 49, 55, 50, 55, 51, 55, 52, 55, 53, 55, 54, 55, 55, 55, 56, 55, 57, 56, 48, 56, 49, 56, 50, 56, 51, 56, 52, 56, 53, 56, 54, 56, 55, 56, 56, 56, 57, 57, 48, 57, 49, 57, 50, 57, 51, 57, 52, 57, 53, 57, 54, 57, 55, 57, 56, 57, 57])) (.t 154), [9], none⟩⟩,
    ⟨true, ⟨(some 156), .iaddr none 1 (.t 145) (.t 147), [0, 2, 0, 1, 2, 6, 7, 8], none⟩⟩,
    ⟨false, ⟨none, .store 1 (.t 156) (.t 153), [11, 8, 0, 1, 2, 6, 7, 8], none⟩⟩,
    ⟨true, ⟨(some 157), .iaddr none 1 (.t 148) (.t 150), [3, 5, 0, 1, 2, 3, 4, 5, 6, 7, 8, 9, 10, 11, 12], none⟩⟩,
    ⟨false, ⟨none, .store 1 (.t 157) (.t 155), [13, 10, 12, 0, 1, 2, 3, 4, 5, 6, 7, 8, 9, 10, 11, 12], none⟩⟩] [] 365330807842328668304638136742525458190971240448)
  (.region [⟨true, ⟨(some 158), .mov (.t 4), [], none⟩⟩,
    ⟨true, ⟨(some 159), .bin .sub (.t 158) (.c (.int .i64 (.ofNat 2))), [0], none⟩⟩,
    ⟨false, ⟨(some 4), .mov (.t 159), [1, 0, 1], none⟩⟩] [] 1096126227998177188652763624537212264741949407232))))
  .skip))
 (.seq (.region [⟨true, ⟨(some 160), .mov (.t 4), [], none⟩⟩,
   ⟨true, ⟨(some 161), .bin .gtr (.t 160) (.c (.int .i64 (.ofNat 0))), [0], none⟩⟩] [] 1461502334229190372285658005707479039917229604880)
 (.cond (.t 161)
  (.region [⟨true, ⟨(some 162), .mov (.t 0), [], none⟩⟩,
    ⟨true, ⟨(some 163), .mov (.t 12), [], none⟩⟩,
    ⟨true, ⟨(some 164), .bin .add (.c (.int .u32 (.ofNat 48))) (.t 163), [1], none⟩⟩,
    ⟨true, ⟨(some 165), .conv .u8 (.t 164), [2], none⟩⟩,
    ⟨true, ⟨(some 166), .iaddr none 1 (.t 162) (.c (.int .i64 (.ofNat 0))), [0, 0, 1, 2, 3], none⟩⟩,
    ⟨false, ⟨none, .store 1 (.t 166) (.t 165), [4, 3, 0, 1, 2, 3], none⟩⟩] [] 184149206303693767693664288922251660476647500419073)
  .skip)))))))⟩
def f255 : FFn := ⟨102, [.tmp 10, .tmp 11],
 (.seq (.region [⟨true, ⟨(some 10), .mov (.c .nilsl), [], none⟩⟩,
   ⟨true, ⟨(some 11), .mov (.c (.str [])), [0], none⟩⟩] [] 0)
 (.seq (.seq (.region [⟨true, ⟨(some 19), .mov (.t 2), [], none⟩⟩,
   ⟨true, ⟨(some 20), .bin .lss (.t 19) (.c (.int .i64 (.ofNat 2))), [0], none⟩⟩,
   ⟨true, ⟨(some 21), .mov (.t 20), [1], none⟩⟩,
   ⟨true, ⟨(some 22), .mov (.t 2), [2], (some (21, false))⟩⟩,
   ⟨true, ⟨(some 23), .bin .eql (.t 22) (.c (.int .i64 (.ofNat 10))), [3, 2], (some (21, false))⟩⟩,
   ⟨true, ⟨(some 24), .pick (.t 21) (.c (.bool true)) (.t 23), [2, 4], none⟩⟩,
   ⟨true, ⟨(some 25), .mov (.t 24), [5, 2], none⟩⟩,
   ⟨true, ⟨(some 26), .mov (.t 2), [6], (some (25, false))⟩⟩,
   ⟨true, ⟨(some 27), .bin .gtr (.t 26) (.c (.int .i64 (.ofNat 36))), [7, 6], (some (25, false))⟩⟩,
   ⟨true, ⟨(some 28), .pick (.t 25) (.c (.bool true)) (.t 27), [6, 8], none⟩⟩] [] 267911168)
 (.cond (.t 28)
  (.region [⟨true, ⟨(some 29), .bad, [], none⟩⟩,
    ⟨false, ⟨none, .bad, [0], none⟩⟩] [] 805306368)
  .skip))
 (.seq (.region [⟨true, ⟨(some 12), .alloc .dyn (.agg [(.int .u8 (.ofNat 0)), (.int .u8 (.ofNat 0)), (.int .u8 (.ofNat 0)), (.int .u8 (.ofNat 0)), (.int .u8 (.ofNat 0)), (.int .u8 (.ofNat 0)), (.int .u8 (.ofNat 0)), (.int .u8 (.ofNat 0)), (.int .u8 (.ofNat 0)), (.int .u8 (.ofNat 0)), (.int .u8 (.ofNat 0)), (.int .u8 (.ofNat 0)), (.int .u8 (.ofNat 0)), (.int .u8 (.ofNat 0)), (.int .u8 (.ofNat 0)), (.int .u8 (.ofNat 0)), (.int .u8 (.ofNat 0)), (.int .u8 (.ofNat 0)), (.int .u8 (.ofNat 0)), (.int .u8 (.ofNat 0)), (.int .u8 (.ofNat 0)), (.int .u8 (.ofNat 0)), (.int .u8 (.ofNat 0)), (.int .u8 (.ofNat 0)), (.int .u8 (.ofNat 0)), (.int .u8 (.ofNat 0)), (.int .u8 (.ofNat 0)), (.int .u8 (.ofNat 0)), (.int .u8 (.ofNat 0)), (.int .u8 (.ofNat 0)), (.int .u8 (.ofNat 0)), (.int .u8 (.ofNat 0)), (.int .u8 (.ofNat 0)), (.int .u8 (.ofNat 0)), (.int .u8 (.ofNat 0)), (.int .u8 (.ofNat 0)), (.int .u8 (.ofNat 0)), (.int .u8 (.ofNat 0)), (.int .u8 (.ofNat 0)), (.int .u8 (.ofNat 0)), (.int .u8 (.ofNat 0)), (.int .u8 (.ofNat 0)), (.int .u8 (.ofNat 0)), (.int .u8 (.ofNat 0)), (.int .u8 (.ofNat 0)), (.int .u8 (.ofNat 0)), (.int .u8 (.ofNat 0)), (.int .u8 (.ofNat 0)), (.int .u8 (.ofNat 0)), (.int .u8 (.ofNat 0)), (.int .u8 (.ofNat 0)), (.int .u8 (.ofNat 0)), (.int .u8 (.ofNat 0)), (.int .u8 (.ofNat 0)), (.int .u8 (.ofNat 0)), (.int .u8 (.ofNat 0)), (.int .u8 (.ofNat 0)), (.int .u8 (.ofNat 0)), (.int .u8 (.ofNat 0)), (.int .u8 (.ofNat 0)), (.int .u8 (.ofNat 0)), (.int .u8 (.ofNat 0)), (.int .u8 (.ofNat 0)), (.int .u8 (.ofNat 0)), (.int .u8 (.ofNat 0))]), [], none⟩⟩] [] 268435456)
 (.seq (.region [⟨true, ⟨(some 13), .mov (.c (.int .i64 (.ofNat 65))), [], none⟩⟩] [] 0)
 (.seq (.seq (.region [⟨true, ⟨(some 30), .mov (.t 3), [], none⟩⟩] [] 0)
 (.cond (.t 30)
  (.region [⟨true, ⟨(some 31), .mov (.t 1), [], none⟩⟩,
    ⟨true, ⟨(some 32), .un .neg (.t 31), [0], none⟩⟩,
    ⟨false, ⟨(some 1), .mov (.t 32), [1, 0, 1], none⟩⟩] [] 7516192768)
  .skip))
 (.seq (.seq (.region [⟨true, ⟨(some 33), .mov (.t 2), [], none⟩⟩,
   ⟨true, ⟨(some 34), .call .heap (.f 291) [(.t 33)], [0], none⟩⟩] [] 9663676416)
 (.cond (.t 34)
  (.seq (.region [⟨true, ⟨(some 35), .mov (.t 2), [], none⟩⟩,
    ⟨true, ⟨(some 36), .conv .u64 (.t 35), [0], none⟩⟩,
    ⟨true, ⟨(some 37), .call .heap (.f 292) [(.t 36)], [1], none⟩⟩,
    ⟨true, ⟨(some 38), .conv .u64 (.t 37), [2], none⟩⟩,
    ⟨true, ⟨(some 14), .mov (.t 38), [3, 2, 0, 1, 2, 3], none⟩⟩] [] 532575944704)
  (.seq (.region [⟨true, ⟨(some 39), .mov (.t 2), [], none⟩⟩,
    ⟨true, ⟨(some 40), .conv .u64 (.t 39), [0], none⟩⟩,
    ⟨true, ⟨(some 15), .mov (.t 40), [1, 0, 1], none⟩⟩] [] 1649267441664)
  (.seq (.region [⟨true, ⟨(some 41), .mov (.t 2), [], none⟩⟩,
    ⟨true, ⟨(some 42), .conv .u64 (.t 41), [0], none⟩⟩,
    ⟨true, ⟨(some 43), .bin .sub (.t 42) (.c (.int .u64 (.ofNat 1))), [1], none⟩⟩,
    ⟨true, ⟨(some 16), .mov (.t 43), [2, 0, 1, 2], none⟩⟩] [] 15393162788868)
  (.seq (.block 0 (.loop (.seq (.seq (.region [⟨true, ⟨(some 44), .mov (.t 1), [], none⟩⟩,
    ⟨true, ⟨(some 45), .mov (.t 15), [], none⟩⟩,
    ⟨true, ⟨(some 46), .bin .geq (.t 44) (.t 45), [0, 1], none⟩⟩] [] 52776558133248)
  (.cond (.t 46)
   .skip
   (.exit 0)))
  (.block 1 (.seq (.region [⟨true, ⟨(some 47), .mov (.t 13), [], none⟩⟩,
    ⟨true, ⟨(some 48), .bin .sub (.t 47) (.c (.int .i64 (.ofNat 1))), [0], none⟩⟩,
    ⟨false, ⟨(some 13), .mov (.t 48), [1, 0, 1], none⟩⟩] [] 492581209243648)
  (.seq (.region [⟨true, ⟨(some 49), .mov (.t 13), [], none⟩⟩,
    ⟨true, ⟨(some 50), .mov (.t 1), [], none⟩⟩,
    ⟨true, ⟨(some 51), .mov (.t 16), [], none⟩⟩,
    ⟨true, ⟨(some 52), .bin .and (.t 50) (.t 51), [1, 2], none⟩⟩,
    ⟨true, ⟨(some 53), .index none (.c (.str [48, 49, 50, 51, 52, 53, 54, 55, 56, 57, 97, 98, 99, 100, 101, 102, 103, 104, 105, 106, 107, 108, 109, 110, 111, 112, 113, 114, 115, 116, 117, 118, 119, 120, 121, 122])) (.t 52), [3], none⟩⟩,
    ⟨true, ⟨(some 54), .iaddr (some 65) 1 (.t 12) (.t 49), [0, 0, 1, 2, 3, 4], none⟩⟩,
    ⟨false, ⟨none, .store 1 (.t 54) (.t 53), [5, 4, 0, 1, 2, 3, 4], none⟩⟩] [] 35465847065542656)
  (.region [⟨true, ⟨(some 55), .mov (.t 1), [], none⟩⟩,
    ⟨true, ⟨(some 56), .mov (.t 14), [], none⟩⟩,
    ⟨true, ⟨(some 57), .bin .shr (.t 55) (.t 56), [0, 1], none⟩⟩,
    ⟨false, ⟨(some 1), .mov (.t 57), [2, 0, 1, 2], none⟩⟩] [] 252201579132747776)))))))
  (.seq (.region [⟨true, ⟨(some 58), .mov (.t 13), [], none⟩⟩,
    ⟨true, ⟨(some 59), .bin .sub (.t 58) (.c (.int .i64 (.ofNat 1))), [0], none⟩⟩,
    ⟨false, ⟨(some 13), .mov (.t 59), [1, 0, 1], none⟩⟩] [] 864691128455249920)
  (.region [⟨true, ⟨(some 60), .mov (.t 13), [], none⟩⟩,
    ⟨true, ⟨(some 61), .mov (.t 1), [], none⟩⟩,
    ⟨true, ⟨(some 62), .index none (.c (.str [48, 49, 50, 51, 52, 53, 54, 55, 56, 57, 97, 98, 99, 100, 101, 102, 103, 104, 105, 106, 107, 108, 109, 110, 111, 112, 113, 114, 115, 116, 117, 118, 119, 120, 121, 122])) (.t 61), [1], none⟩⟩,
    ⟨true, ⟨(some 63), .iaddr (some 65) 1 (.t 12) (.t 60), [0, 0, 1, 2], none⟩⟩,
    ⟨false, ⟨none, .store 1 (.t 63) (.t 62), [3, 2, 0, 1, 2], none⟩⟩] [] 17293822569102704642))))))
  (.seq (.region [⟨true, ⟨(some 64), .mov (.t 2), [], none⟩⟩,
    ⟨true, ⟨(some 65), .conv .u64 (.t 64), [0], none⟩⟩,
    ⟨true, ⟨(some 17), .mov (.t 65), [1, 0, 1], none⟩⟩] [] 55340232238308524036)
  (.seq (.block 2 (.loop (.seq (.seq (.region [⟨true, ⟨(some 66), .mov (.t 1), [], none⟩⟩,
    ⟨true, ⟨(some 67), .mov (.t 17), [], none⟩⟩,
    ⟨true, ⟨(some 68), .bin .geq (.t 66) (.t 67), [0, 1], none⟩⟩] [] 221360928884514619392)
  (.cond (.t 68)
   .skip
   (.exit 2)))
  (.block 3 (.seq (.region [⟨true, ⟨(some 69), .mov (.t 13), [], none⟩⟩,
    ⟨true, ⟨(some 70), .bin .sub (.t 69) (.c (.int .i64 (.ofNat 1))), [0], none⟩⟩,
    ⟨false, ⟨(some 13), .mov (.t 70), [1, 0, 1], none⟩⟩] [] 2066035336255469780992)
  (.seq (.region [⟨true, ⟨(some 71), .mov (.t 1), [], none⟩⟩,
    ⟨true, ⟨(some 72), .mov (.t 17), [], none⟩⟩,
    ⟨true, ⟨(some 73), .bin .quo (.t 71) (.t 72), [0, 1], none⟩⟩,
    ⟨true, ⟨(some 18), .mov (.t 73), [2, 0, 1, 2], none⟩⟩] [] 16528282690043758247936)
  (.seq (.region [⟨true, ⟨(some 74), .mov (.t 13), [], none⟩⟩,
    ⟨true, ⟨(some 75), .mov (.t 1), [], none⟩⟩,
    ⟨true, ⟨(some 76), .mov (.t 18), [], none⟩⟩,
    ⟨true, ⟨(some 77), .mov (.t 17), [], none⟩⟩,
    ⟨true, ⟨(some 78), .bin .mul (.t 76) (.t 77), [2, 3], none⟩⟩,
    ⟨true, ⟨(some 79), .bin .sub (.t 75) (.t 78), [1, 4], none⟩⟩,
    ⟨true, ⟨(some 80), .index none (.c (.str [48, 49, 50, 51, 52, 53, 54, 55, 56, 57, 97, 98, 99, 100, 101, 102, 103, 104, 105, 106, 107, 108, 109, 110, 111, 112, 113, 114, 115, 116, 117, 118, 119, 120, 121, 122])) (.t 79), [5], none⟩⟩,
    ⟨true, ⟨(some 81), .iaddr (some 65) 1 (.t 12) (.t 74), [0, 0, 1, 2, 3, 4, 5, 6], none⟩⟩,
    ⟨false, ⟨none, .store 1 (.t 81) (.t 80), [7, 6, 0, 1, 2, 3, 4, 5, 6], none⟩⟩] [] 4816813812527038117969922)
  (.region [⟨true, ⟨(some 82), .mov (.t 18), [], none⟩⟩,
    ⟨true, ⟨(some 1), .mov (.t 82), [0, 0], none⟩⟩] [] 4835703278458516699086848))))))))
  (.seq (.region [⟨true, ⟨(some 83), .mov (.t 13), [], none⟩⟩,
    ⟨true, ⟨(some 84), .bin .sub (.t 83) (.c (.int .i64 (.ofNat 1))), [0], none⟩⟩,
    ⟨false, ⟨(some 13), .mov (.t 84), [1, 0, 1], none⟩⟩] [] 29014219670751100193079296)
  (.region [⟨true, ⟨(some 85), .mov (.t 13), [], none⟩⟩,
    ⟨true, ⟨(some 86), .mov (.t 1), [], none⟩⟩,
    ⟨true, ⟨(some 87), .index none (.c (.str [48, 49, 50, 51, 52, 53, 54, 55, 56, 57, 97, 98, 99, 100, 101, 102, 103, 104, 105, 106, 107, 108, 109, 110, 111, 112, 113, 114, 115, 116, 117, 118, 119, 120, 121, 122])) (.t 86), [1], none⟩⟩,
    ⟨true, ⟨(some 88), .iaddr (some 65) 1 (.t 12) (.t 85), [0, 0, 1, 2], none⟩⟩,
    ⟨false, ⟨none, .store 1 (.t 88) (.t 87), [3, 2, 0, 1, 2], none⟩⟩] [] 580284393415022003858964482))))))
 (.seq (.seq (.region [⟨true, ⟨(some 89), .mov (.t 3), [], none⟩⟩] [] 8)
 (.cond (.t 89)
  (.seq (.region [⟨true, ⟨(some 90), .mov (.t 13), [], none⟩⟩,
    ⟨true, ⟨(some 91), .bin .sub (.t 90) (.c (.int .i64 (.ofNat 1))), [0], none⟩⟩,
    ⟨false, ⟨(some 13), .mov (.t 91), [1, 0, 1], none⟩⟩] [] 4332790137498830962146934784)
  (.region [⟨true, ⟨(some 92), .mov (.t 13), [], none⟩⟩,
    ⟨true, ⟨(some 93), .iaddr (some 65) 1 (.t 12) (.t 92), [0, 0], none⟩⟩,
    ⟨false, ⟨none, .store 1 (.t 93) (.c (.int .u8 (.ofNat 45))), [1, 0], none⟩⟩] [] 14855280471424563298789494784))
  .skip))
 (.seq (.seq (.region [⟨true, ⟨(some 94), .mov (.t 4), [], none⟩⟩] [] 618970019642690137449566224)
 (.cond (.t 94)
  (.seq (.region [⟨true, ⟨(some 95), .mov (.t 0), [], none⟩⟩,
    ⟨true, ⟨(some 96), .mov (.t 13), [], none⟩⟩,
    ⟨true, ⟨(some 97), .bad, [1], none⟩⟩,
    ⟨true, ⟨(some 98), .append .dyn 1 1 (.t 95) (.t 97), [0, 2], none⟩⟩,
    ⟨false, ⟨(some 10), .mov (.t 98), [3, 3, 0, 1, 2, 3], none⟩⟩] [] 614018259485548616349965623297)
  .ret)
  .skip))
 (.seq (.region [⟨true, ⟨(some 99), .mov (.t 13), [], none⟩⟩,
   ⟨true, ⟨(some 100), .bad, [0], none⟩⟩,
   ⟨true, ⟨(some 101), .convB (.t 100), [1], none⟩⟩,
   ⟨false, ⟨(some 11), .mov (.t 101), [2, 0, 1, 2], none⟩⟩] [] 4456584141427368989636847214593)
 .ret)))))))))⟩
def f256 : FFn := ⟨76, [],
 (.seq (.region [⟨true, ⟨(some 10), .mov (.t 1), [], none⟩⟩,
   ⟨true, ⟨(some 8), .mov (.t 10), [0, 0], none⟩⟩] [] 1026)
 (.block 0 (.loop (.block 1 (.seq (.region [⟨true, ⟨(some 11), .mov (.t 8), [], none⟩⟩,
   ⟨true, ⟨(some 12), .bin .mul (.c (.int .i64 (.ofNat 2))) (.t 11), [0], none⟩⟩,
   ⟨true, ⟨(some 13), .bin .add (.t 12) (.c (.int .i64 (.ofNat 1))), [1], none⟩⟩,
   ⟨true, ⟨(some 9), .mov (.t 13), [2, 0, 1, 2], none⟩⟩] [] 14336)
 (.seq (.seq (.region [⟨true, ⟨(some 14), .mov (.t 9), [], none⟩⟩,
   ⟨true, ⟨(some 15), .mov (.t 2), [], none⟩⟩,
   ⟨true, ⟨(some 16), .bin .geq (.t 14) (.t 15), [0, 1], none⟩⟩] [] 49152)
 (.cond (.t 16)
  (.exit 0)
  .skip))
 (.seq (.seq (.region [⟨true, ⟨(some 17), .mov (.t 9), [], none⟩⟩,
   ⟨true, ⟨(some 18), .bin .add (.t 17) (.c (.int .i64 (.ofNat 1))), [0], none⟩⟩,
   ⟨true, ⟨(some 19), .mov (.t 2), [], none⟩⟩,
   ⟨true, ⟨(some 20), .bin .lss (.t 18) (.t 19), [1, 2], none⟩⟩,
   ⟨true, ⟨(some 21), .mov (.t 20), [3], none⟩⟩,
   ⟨false, ⟨(some 22), .mov (.t 0), [4], (some (21, true))⟩⟩,
   ⟨false, ⟨(some 23), .mov (.t 3), [4], (some (21, true))⟩⟩,
   ⟨false, ⟨(some 24), .mov (.t 9), [4], (some (21, true))⟩⟩,
   ⟨false, ⟨(some 25), .bin .add (.t 23) (.t 24), [6, 7, 4], (some (21, true))⟩⟩,
   ⟨false, ⟨(some 26), .iaddr none 1 (.t 22) (.t 25), [5, 8, 4], (some (21, true))⟩⟩,
   ⟨false, ⟨(some 27), .load none (.t 26), [9, 4], (some (21, true))⟩⟩,
   ⟨false, ⟨(some 28), .mov (.t 0), [4], (some (21, true))⟩⟩,
   ⟨false, ⟨(some 29), .mov (.t 3), [4], (some (21, true))⟩⟩,
   ⟨false, ⟨(some 30), .mov (.t 9), [4], (some (21, true))⟩⟩,
   ⟨false, ⟨(some 31), .bin .add (.t 29) (.t 30), [12, 13, 4], (some (21, true))⟩⟩,
   ⟨false, ⟨(some 32), .bin .add (.t 31) (.c (.int .i64 (.ofNat 1))), [14, 4], (some (21, true))⟩⟩,
   ⟨false, ⟨(some 33), .iaddr none 1 (.t 28) (.t 32), [11, 15, 4], (some (21, true))⟩⟩,
   ⟨false, ⟨(some 34), .load none (.t 33), [16, 4], (some (21, true))⟩⟩,
   ⟨false, ⟨(some 35), .call .heap (.f 212) [(.t 27), (.t 34)], [10, 17, 4, 4], (some (21, true))⟩⟩,
   ⟨true, ⟨(some 36), .pick (.t 21) (.t 35) (.c (.bool false)), [4, 18], none⟩⟩] [] 4128768)
 (.cond (.t 36)
  (.region [⟨true, ⟨(some 37), .mov (.t 9), [], none⟩⟩,
    ⟨true, ⟨(some 38), .bin .add (.t 37) (.c (.int .i64 (.ofNat 1))), [0], none⟩⟩,
    ⟨false, ⟨(some 9), .mov (.t 38), [1, 0, 1], none⟩⟩] [] 481036337152)
  .skip))
 (.seq (.seq (.region [⟨true, ⟨(some 39), .mov (.t 0), [], none⟩⟩,
   ⟨true, ⟨(some 40), .mov (.t 3), [], none⟩⟩,
   ⟨true, ⟨(some 41), .mov (.t 8), [], none⟩⟩,
   ⟨true, ⟨(some 42), .bin .add (.t 40) (.t 41), [1, 2], none⟩⟩,
   ⟨true, ⟨(some 43), .iaddr none 1 (.t 39) (.t 42), [0, 3], none⟩⟩,
   ⟨true, ⟨(some 44), .load none (.t 43), [4], none⟩⟩,
   ⟨true, ⟨(some 45), .mov (.t 0), [], none⟩⟩,
   ⟨true, ⟨(some 46), .mov (.t 3), [], none⟩⟩,
   ⟨true, ⟨(some 47), .mov (.t 9), [], none⟩⟩,
   ⟨true, ⟨(some 48), .bin .add (.t 46) (.t 47), [7, 8], none⟩⟩,
   ⟨true, ⟨(some 49), .iaddr none 1 (.t 45) (.t 48), [6, 9], none⟩⟩,
   ⟨true, ⟨(some 50), .load none (.t 49), [10], none⟩⟩,
   ⟨true, ⟨(some 51), .call .heap (.f 212) [(.t 44), (.t 50)], [5, 11], none⟩⟩,
   ⟨true, ⟨(some 52), .un .not (.t 51), [12], none⟩⟩] [] 4503118591033344)
 (.cond (.t 52)
  .ret
  .skip))
 (.seq (.region [⟨true, ⟨(some 53), .mov (.t 0), [], none⟩⟩,
   ⟨true, ⟨(some 54), .mov (.t 3), [], none⟩⟩,
   ⟨true, ⟨(some 55), .mov (.t 8), [], none⟩⟩,
   ⟨true, ⟨(some 56), .bin .add (.t 54) (.t 55), [1, 2], none⟩⟩,
   ⟨true, ⟨(some 57), .mov (.t 0), [], none⟩⟩,
   ⟨true, ⟨(some 58), .mov (.t 3), [], none⟩⟩,
   ⟨true, ⟨(some 59), .mov (.t 9), [], none⟩⟩,
   ⟨true, ⟨(some 60), .bin .add (.t 58) (.t 59), [5, 6], none⟩⟩,
   ⟨true, ⟨(some 61), .mov (.t 0), [], none⟩⟩,
   ⟨true, ⟨(some 62), .mov (.t 3), [], none⟩⟩,
   ⟨true, ⟨(some 63), .mov (.t 9), [], none⟩⟩,
   ⟨true, ⟨(some 64), .bin .add (.t 62) (.t 63), [9, 10], none⟩⟩,
   ⟨true, ⟨(some 65), .iaddr none 1 (.t 61) (.t 64), [8, 11], none⟩⟩,
   ⟨true, ⟨(some 66), .load none (.t 65), [12], none⟩⟩,
   ⟨true, ⟨(some 67), .mov (.t 0), [], none⟩⟩,
   ⟨true, ⟨(some 68), .mov (.t 3), [], none⟩⟩,
   ⟨true, ⟨(some 69), .mov (.t 8), [], none⟩⟩,
   ⟨true, ⟨(some 70), .bin .add (.t 68) (.t 69), [15, 16], none⟩⟩,
   ⟨true, ⟨(some 71), .iaddr none 1 (.t 67) (.t 70), [14, 17], none⟩⟩,
   ⟨true, ⟨(some 72), .load none (.t 71), [18], none⟩⟩,
   ⟨true, ⟨(some 73), .iaddr none 1 (.t 53) (.t 56), [0, 3, 0, 1, 2, 3, 8, 9, 10, 11, 12, 13, 19], none⟩⟩,
   ⟨false, ⟨none, .store 1 (.t 73) (.t 66), [20, 13, 0, 1, 2, 3, 8, 9, 10, 11, 12, 13, 19], none⟩⟩,
   ⟨true, ⟨(some 74), .iaddr none 1 (.t 57) (.t 60), [4, 7, 0, 1, 2, 3, 4, 5, 6, 7, 8, 9, 10, 11, 12, 13, 14, 15, 16, 17, 18, 19, 20, 21], none⟩⟩,
   ⟨false, ⟨none, .store 1 (.t 74) (.t 72), [22, 19, 21, 0, 1, 2, 3, 4, 5, 6, 7, 8, 9, 10, 11, 12, 13, 14, 15, 16, 17, 18, 19, 20, 21], none⟩⟩] [] 37778927359357534339328)
 (.region [⟨true, ⟨(some 75), .mov (.t 9), [], none⟩⟩,
   ⟨true, ⟨(some 8), .mov (.t 75), [0, 0], none⟩⟩] [] 37778931862957161710080))))))))))⟩
def f257 : FFn := ⟨15, [.tmp 6],
 (.seq (.region [⟨true, ⟨(some 6), .mov (.c (.int .i64 (.ofNat 0))), [], none⟩⟩] [] 64)
 (.seq (.region [⟨true, ⟨(some 7), .mov (.t 0), [], none⟩⟩,
   ⟨true, ⟨(some 8), .mov (.t 1), [], none⟩⟩,
   ⟨true, ⟨(some 9), .bin .sub (.t 8) (.c (.int .i64 (.ofNat 1))), [1], none⟩⟩,
   ⟨true, ⟨(some 10), .mov (.t 1), [], none⟩⟩,
   ⟨true, ⟨(some 11), .mov (.t 1), [], none⟩⟩,
   ⟨true, ⟨(some 12), .bin .add (.t 11) (.c (.int .i64 (.ofNat 1))), [4], none⟩⟩,
   ⟨true, ⟨(some 13), .mov (.t 2), [], none⟩⟩,
   ⟨true, ⟨(some 14), .call .heap (.f 258) [(.t 7), (.t 9), (.t 10), (.t 12), (.t 13)], [0, 2, 3, 5, 6], none⟩⟩,
   ⟨true, ⟨(some 6), .mov (.t 14), [7, 7, 0, 1, 2, 3, 4, 5, 6, 7], none⟩⟩] [] 32647)
 .ret))⟩
def f258 : FFn := ⟨36, [.tmp 10],
 (.seq (.region [⟨true, ⟨(some 10), .mov (.c (.int .i64 (.ofNat 0))), [], none⟩⟩] [] 1024)
 (.seq (.region [⟨true, ⟨(some 12), .mov (.t 0), [], none⟩⟩,
   ⟨true, ⟨(some 13), .mov (.t 1), [], none⟩⟩,
   ⟨true, ⟨(some 14), .mov (.t 2), [], none⟩⟩,
   ⟨true, ⟨(some 15), .mov (.t 4), [], none⟩⟩,
   ⟨true, ⟨(some 16), .call .heap (.f 293) [(.t 12), (.t 13), (.t 14), (.t 15)], [0, 1, 2, 3], none⟩⟩,
   ⟨true, ⟨(some 11), .mov (.t 16), [4], none⟩⟩,
   ⟨true, ⟨(some 17), .extract 0 (.t 11), [5], none⟩⟩,
   ⟨true, ⟨(some 18), .extract 1 (.t 11), [5], none⟩⟩,
   ⟨false, ⟨(some 1), .mov (.t 17), [6, 4, 0, 1, 2, 3, 4, 5, 6], none⟩⟩,
   ⟨false, ⟨(some 2), .mov (.t 18), [7, 8, 0, 1, 2, 3, 4, 5, 6, 7, 8], none⟩⟩] [] 522240)
 (.seq (.region [⟨true, ⟨(some 20), .mov (.t 0), [], none⟩⟩,
   ⟨true, ⟨(some 21), .mov (.t 2), [], none⟩⟩,
   ⟨true, ⟨(some 22), .mov (.t 3), [], none⟩⟩,
   ⟨true, ⟨(some 23), .mov (.t 4), [], none⟩⟩,
   ⟨true, ⟨(some 24), .call .heap (.f 293) [(.t 20), (.t 21), (.t 22), (.t 23)], [0, 1, 2, 3], none⟩⟩,
   ⟨true, ⟨(some 19), .mov (.t 24), [4], none⟩⟩,
   ⟨true, ⟨(some 25), .extract 0 (.t 19), [5], none⟩⟩,
   ⟨true, ⟨(some 26), .extract 1 (.t 19), [5], none⟩⟩,
   ⟨false, ⟨(some 2), .mov (.t 25), [6, 4, 0, 1, 2, 3, 4, 5, 6], none⟩⟩,
   ⟨false, ⟨(some 3), .mov (.t 26), [7, 8, 0, 1, 2, 3, 4, 5, 6, 7, 8], none⟩⟩] [] 133693448)
 (.seq (.region [⟨true, ⟨(some 28), .mov (.t 0), [], none⟩⟩,
   ⟨true, ⟨(some 29), .mov (.t 1), [], none⟩⟩,
   ⟨true, ⟨(some 30), .mov (.t 2), [], none⟩⟩,
   ⟨true, ⟨(some 31), .mov (.t 4), [], none⟩⟩,
   ⟨true, ⟨(some 32), .call .heap (.f 293) [(.t 28), (.t 29), (.t 30), (.t 31)], [0, 1, 2, 3], none⟩⟩,
   ⟨true, ⟨(some 27), .mov (.t 32), [4], none⟩⟩,
   ⟨true, ⟨(some 33), .extract 0 (.t 27), [5], none⟩⟩,
   ⟨true, ⟨(some 34), .extract 1 (.t 27), [5], none⟩⟩,
   ⟨false, ⟨(some 1), .mov (.t 33), [6, 4, 0, 1, 2, 3, 4, 5, 6], none⟩⟩,
   ⟨false, ⟨(some 2), .mov (.t 34), [7, 8, 0, 1, 2, 3, 4, 5, 6, 7, 8], none⟩⟩] [] 34225520659)
 (.seq (.region [⟨true, ⟨(some 35), .mov (.t 2), [], none⟩⟩,
   ⟨true, ⟨(some 10), .mov (.t 35), [0, 0], none⟩⟩] [] 34359738372)
 .ret)))))⟩
def f259 : FFn := ⟨6, [.tmp 2],
 (.seq (.region [⟨true, ⟨(some 2), .mov (.c (.bool false)), [], none⟩⟩] [] 4)
 (.seq (.region [⟨true, ⟨(some 3), .mov (.t 0), [], none⟩⟩,
   ⟨true, ⟨(some 4), .mov (.t 0), [], none⟩⟩,
   ⟨true, ⟨(some 5), .bin .neq (.t 3) (.t 4), [0, 1], none⟩⟩,
   ⟨true, ⟨(some 2), .mov (.t 5), [2, 0, 1, 2], none⟩⟩] [] 57)
 .ret))⟩
def f260 : FFn := ⟨6, [.tmp 2],
 (.seq (.region [⟨true, ⟨(some 2), .mov (.c (.bool false)), [], none⟩⟩] [] 4)
 (.seq (.region [⟨true, ⟨(some 3), .mov (.t 0), [], none⟩⟩,
   ⟨true, ⟨(some 4), .mov (.t 0), [], none⟩⟩,
   ⟨true, ⟨(some 5), .bin .neq (.t 3) (.t 4), [0, 1], none⟩⟩,
   ⟨true, ⟨(some 2), .mov (.t 5), [2, 0, 1, 2], none⟩⟩] [] 57)
 .ret))⟩
def f289 : FFn := ⟨6, [.tmp 2],
 (.seq (.region [⟨true, ⟨(some 2), .mov (.c (.int .i64 (.ofNat 0))), [], none⟩⟩] [] 4)
 (.seq (.region [⟨true, ⟨(some 3), .mov (.t 0), [], none⟩⟩,
   ⟨true, ⟨(some 4), .bin .mul (.t 3) (.c (.int .i64 (.ofNat 78913))), [0], none⟩⟩,
   ⟨true, ⟨(some 5), .bin .shr (.t 4) (.c (.int .u64 (.ofNat 18))), [1], none⟩⟩,
   ⟨true, ⟨(some 2), .mov (.t 5), [2, 0, 1, 2], none⟩⟩] [] 57)
 .ret))⟩
def f290 : FFn := ⟨4, [.tmp 2],
 (.seq (.region [⟨true, ⟨(some 2), .mov (.c (.int .i64 (.ofNat 0))), [], none⟩⟩] [] 4)
 (.seq (.seq (.region [⟨true, ⟨(some 3), .mov (.t 0), [], none⟩⟩] [] 1)
 (.cond (.t 3)
  (.seq (.region [⟨true, ⟨(some 2), .mov (.c (.int .i64 (.ofNat 1))), [], none⟩⟩] [] 8)
  .ret)
  .skip))
 (.seq (.region [⟨false, ⟨(some 2), .mov (.c (.int .i64 (.ofNat 0))), [], none⟩⟩] [] 8)
 .ret)))⟩
def f291 : FFn := ⟨8, [.tmp 2],
 (.seq (.region [⟨true, ⟨(some 2), .mov (.c (.bool false)), [], none⟩⟩] [] 4)
 (.seq (.region [⟨true, ⟨(some 3), .mov (.t 0), [], none⟩⟩,
   ⟨true, ⟨(some 4), .mov (.t 0), [], none⟩⟩,
   ⟨true, ⟨(some 5), .bin .sub (.t 4) (.c (.int .i64 (.ofNat 1))), [1], none⟩⟩,
   ⟨true, ⟨(some 6), .bin .and (.t 3) (.t 5), [0, 2], none⟩⟩,
   ⟨true, ⟨(some 7), .bin .eql (.t 6) (.c (.int .i64 (.ofNat 0))), [3], none⟩⟩,
   ⟨true, ⟨(some 2), .mov (.t 7), [4, 0, 1, 2, 3, 4], none⟩⟩] [] 249)
 .ret))⟩
def f292 : FFn := ⟨8, [.tmp 2],
 (.seq (.region [⟨true, ⟨(some 2), .mov (.c (.int .i64 (.ofNat 0))), [], none⟩⟩] [] 4)
 (.seq (.cond (.c (.bool false))
  (.seq (.region [⟨true, ⟨(some 3), .mov (.t 0), [], none⟩⟩,
    ⟨true, ⟨(some 4), .conv .u32 (.t 3), [0], none⟩⟩,
    ⟨true, ⟨(some 5), .call .heap (.f 303) [(.t 4)], [1], none⟩⟩,
    ⟨true, ⟨(some 2), .mov (.t 5), [2, 2, 0, 1, 2], none⟩⟩] [] 57)
  .ret)
  .skip)
 (.seq (.region [⟨true, ⟨(some 6), .mov (.t 0), [], none⟩⟩,
   ⟨true, ⟨(some 7), .call .heap (.f 304) [(.t 6)], [0], none⟩⟩,
   ⟨false, ⟨(some 2), .mov (.t 7), [1, 1, 0, 1], none⟩⟩] [] 193)
 .ret)))⟩
def f293 : FFn := ⟨28, [.tmp 8, .tmp 9],
 (.seq (.region [⟨true, ⟨(some 8), .mov (.c (.int .i64 (.ofNat 0))), [], none⟩⟩,
   ⟨true, ⟨(some 9), .mov (.c (.int .i64 (.ofNat 0))), [0], none⟩⟩] [] 768)
 (.seq (.seq (.region [⟨true, ⟨(some 10), .mov (.t 0), [], none⟩⟩,
   ⟨true, ⟨(some 11), .mov (.t 2), [], none⟩⟩,
   ⟨true, ⟨(some 12), .iaddr none 1 (.t 10) (.t 11), [0, 1], none⟩⟩,
   ⟨true, ⟨(some 13), .load none (.t 12), [2], none⟩⟩,
   ⟨true, ⟨(some 14), .mov (.t 0), [], none⟩⟩,
   ⟨true, ⟨(some 15), .mov (.t 1), [], none⟩⟩,
   ⟨true, ⟨(some 16), .iaddr none 1 (.t 14) (.t 15), [4, 5], none⟩⟩,
   ⟨true, ⟨(some 17), .load none (.t 16), [6], none⟩⟩,
   ⟨true, ⟨(some 18), .call .heap (.f 212) [(.t 13), (.t 17)], [3, 7], none⟩⟩] [] 261121)
 (.cond (.t 18)
  (.seq (.region [⟨true, ⟨(some 19), .mov (.t 3), [], none⟩⟩,
    ⟨true, ⟨(some 20), .nilchk (.t 19), [0], none⟩⟩,
    ⟨true, ⟨(some 21), .load none (.t 20), [1], none⟩⟩,
    ⟨true, ⟨(some 22), .bin .add (.t 21) (.c (.int .i64 (.ofNat 1))), [2], none⟩⟩,
    ⟨true, ⟨(some 23), .nilchk (.t 19), [0, 0, 1, 2, 3], none⟩⟩,
    ⟨false, ⟨none, .store 1 (.t 23) (.t 22), [4, 3, 0, 1, 2, 3], none⟩⟩] [] 16515080)
  (.seq (.region [⟨true, ⟨(some 24), .mov (.t 2), [], none⟩⟩,
    ⟨true, ⟨(some 25), .mov (.t 1), [], none⟩⟩,
    ⟨true, ⟨(some 8), .mov (.t 24), [0, 0], none⟩⟩,
    ⟨true, ⟨(some 9), .mov (.t 25), [1, 2, 0, 1, 2], none⟩⟩] [] 50331654)
  .ret))
  .skip))
 (.seq (.region [⟨true, ⟨(some 26), .mov (.t 1), [], none⟩⟩,
   ⟨true, ⟨(some 27), .mov (.t 2), [], none⟩⟩,
   ⟨false, ⟨(some 8), .mov (.t 26), [0, 0], none⟩⟩,
   ⟨false, ⟨(some 9), .mov (.t 27), [1, 2, 0, 1, 2], none⟩⟩] [] 201588750)
 .ret)))⟩
def f303 : FFn := ⟨14, [.tmp 2],
 (.seq (.region [⟨true, ⟨(some 2), .mov (.c (.int .i64 (.ofNat 0))), [], none⟩⟩] [] 4)
 (.seq (.seq (.region [⟨true, ⟨(some 3), .mov (.t 0), [], none⟩⟩,
   ⟨true, ⟨(some 4), .bin .eql (.t 3) (.c (.int .u32 (.ofNat 0))), [0], none⟩⟩] [] 8)
 (.cond (.t 4)
  (.seq (.region [⟨true, ⟨(some 2), .mov (.c (.int .i64 (.ofNat 32))), [], none⟩⟩] [] 17)
  .ret)
  .skip))
 (.seq (.region [⟨true, ⟨(some 5), .mov (.t 0), [], none⟩⟩,
   ⟨true, ⟨(some 6), .mov (.t 0), [], none⟩⟩,
   ⟨true, ⟨(some 7), .un .neg (.t 6), [1], none⟩⟩,
   ⟨true, ⟨(some 8), .bin .and (.t 5) (.t 7), [0, 2], none⟩⟩,
   ⟨true, ⟨(some 9), .bin .mul (.t 8) (.c (.int .u32 (.ofNat 125613361))), [3], none⟩⟩,
   ⟨true, ⟨(some 10), .bin .shr (.t 9) (.c (.int .u64 (.ofNat 27))), [4], none⟩⟩,
   ⟨true, ⟨(some 11), .iaddr (some 32) 1 (.g 1) (.t 10), [5], none⟩⟩,
   ⟨true, ⟨(some 12), .load none (.t 11), [6], none⟩⟩,
   ⟨true, ⟨(some 13), .conv .i64 (.t 12), [7], none⟩⟩,
   ⟨false, ⟨(some 2), .mov (.t 13), [8, 0, 1, 2, 3, 4, 5, 6, 7, 8], none⟩⟩] [] 16369)
 .ret)))⟩
def f304 : FFn := ⟨14, [.tmp 2],
 (.seq (.region [⟨true, ⟨(some 2), .mov (.c (.int .i64 (.ofNat 0))), [], none⟩⟩] [] 4)
 (.seq (.seq (.region [⟨true, ⟨(some 3), .mov (.t 0), [], none⟩⟩,
   ⟨true, ⟨(some 4), .bin .eql (.t 3) (.c (.int .u64 (.ofNat 0))), [0], none⟩⟩] [] 8)
 (.cond (.t 4)
  (.seq (.region [⟨true, ⟨(some 2), .mov (.c (.int .i64 (.ofNat 64))), [], none⟩⟩] [] 17)
  .ret)
  .skip))
 (.seq (.region [⟨true, ⟨(some 5), .mov (.t 0), [], none⟩⟩,
   ⟨true, ⟨(some 6), .mov (.t 0), [], none⟩⟩,
   ⟨true, ⟨(some 7), .un .neg (.t 6), [1], none⟩⟩,
   ⟨true, ⟨(some 8), .bin .and (.t 5) (.t 7), [0, 2], none⟩⟩,
   ⟨true, ⟨(some 9), .bin .mul (.t 8) (.c (.int .u64 (.ofNat 285870213051353865))), [3], none⟩⟩,
   ⟨true, ⟨(some 10), .bin .shr (.t 9) (.c (.int .u64 (.ofNat 58))), [4], none⟩⟩,
   ⟨true, ⟨(some 11), .iaddr (some 64) 1 (.g 2) (.t 10), [5], none⟩⟩,
   ⟨true, ⟨(some 12), .load none (.t 11), [6], none⟩⟩,
   ⟨true, ⟨(some 13), .conv .i64 (.t 12), [7], none⟩⟩,
   ⟨false, ⟨(some 2), .mov (.t 13), [8, 0, 1, 2, 3, 4, 5, 6, 7, 8], none⟩⟩] [] 16369)
 .ret)))⟩
end Go.AM.JA
set_option maxRecDepth 100000
namespace Go.AM.JA
open Go.Proofs
def ft : FT2 := (.n 101 (.n 49 (.n 35 (.n 14 (.n 11 (.n 9 (.l 3 f3) (.n 10 (.l 9 f9) (.l 10 f10))) (.n 12 (.l 11 f11) (.n 13 (.l 12 f12) (.l 13 f13)))) (.n 31 (.n 15 (.l 14 f14) (.n 18 (.l 15 f15) (.l 18 f18))) (.n 33 (.n 32 (.l 31 f31) (.l 32 f32)) (.n 34 (.l 33 f33) (.l 34 f34))))) (.n 42 (.n 38 (.n 36 (.l 35 f35) (.n 37 (.l 36 f36) (.l 37 f37))) (.n 40 (.n 39 (.l 38 f38) (.l 39 f39)) (.n 41 (.l 40 f40) (.l 41 f41)))) (.n 45 (.n 43 (.l 42 f42) (.n 44 (.l 43 f43) (.l 44 f44))) (.n 47 (.n 46 (.l 45 f45) (.l 46 f46)) (.n 48 (.l 47 f47) (.l 48 f48)))))) (.n 76 (.n 56 (.n 52 (.n 50 (.l 49 f49) (.n 51 (.l 50 f50) (.l 51 f51))) (.n 54 (.n 53 (.l 52 f52) (.l 53 f53)) (.n 55 (.l 54 f54) (.l 55 f55)))) (.n 61 (.n 57 (.l 56 f56) (.n 58 (.l 57 f57) (.l 58 f58))) (.n 67 (.n 62 (.l 61 f61) (.l 62 f62)) (.n 71 (.l 67 f67) (.l 71 f71))))) (.n 94 (.n 90 (.n 88 (.l 76 f76) (.n 89 (.l 88 f88) (.l 89 f89))) (.n 92 (.n 91 (.l 90 f90) (.l 91 f91)) (.n 93 (.l 92 f92) (.l 93 f93)))) (.n 97 (.n 95 (.l 94 f94) (.n 96 (.l 95 f95) (.l 96 f96))) (.n 99 (.n 98 (.l 97 f97) (.l 98 f98)) (.n 100 (.l 99 f99) (.l 100 f100))))))) (.n 211 (.n 158 (.n 108 (.n 104 (.n 102 (.l 101 f101) (.n 103 (.l 102 f102) (.l 103 f103))) (.n 106 (.n 105 (.l 104 f104) (.l 105 f105)) (.n 107 (.l 106 f106) (.l 107 f107)))) (.n 133 (.n 109 (.l 108 f108) (.n 132 (.l 109 f109) (.l 132 f132))) (.n 156 (.n 144 (.l 133 f133) (.l 144 f144)) (.n 157 (.l 156 f156) (.l 157 f157))))) (.n 192 (.n 161 (.n 159 (.l 158 f158) (.n 160 (.l 159 f159) (.l 160 f160))) (.n 181 (.n 169 (.l 161 f161) (.l 169 f169)) (.n 191 (.l 181 f181) (.l 191 f191)))) (.n 207 (.n 205 (.l 192 f192) (.n 206 (.l 205 f205) (.l 206 f206))) (.n 209 (.n 208 (.l 207 f207) (.l 208 f208)) (.n 210 (.l 209 f209) (.l 210 f210)))))) (.n 254 (.n 239 (.n 214 (.n 212 (.l 211 f211) (.n 213 (.l 212 f212) (.l 213 f213))) (.n 216 (.n 215 (.l 214 f214) (.l 215 f215)) (.n 230 (.l 216 f216) (.l 230 f230)))) (.n 243 (.n 240 (.l 239 f239) (.n 241 (.l 240 f240) (.l 241 f241))) (.n 252 (.n 244 (.l 243 f243) (.l 244 f244)) (.n 253 (.l 252 f252) (.l 253 f253))))) (.n 289 (.n 257 (.n 255 (.l 254 f254) (.n 256 (.l 255 f255) (.l 256 f256))) (.n 259 (.n 258 (.l 257 f257) (.l 258 f258)) (.n 260 (.l 259 f259) (.l 260 f260)))) (.n 292 (.n 290 (.l 289 f289) (.n 291 (.l 290 f290) (.l 291 f291))) (.n 303 (.n 293 (.l 292 f292) (.l 293 f293)) (.n 304 (.l 303 f303) (.l 304 f304))))))))
theorem okf3 : okFn Tryz.prog 3 f3.slim = true := by kernel_rfl
theorem okf9 : okFn Tryz.prog 9 f9.slim = true := by kernel_rfl
theorem okf10 : okFn Tryz.prog 10 f10.slim = true := by kernel_rfl
theorem okf11 : okFn Tryz.prog 11 f11.slim = true := by kernel_rfl
theorem okf12 : okFn Tryz.prog 12 f12.slim = true := by kernel_rfl
theorem okf13 : okFn Tryz.prog 13 f13.slim = true := by kernel_rfl
theorem okf14 : okFn Tryz.prog 14 f14.slim = true := by kernel_rfl
theorem okf15 : okFn Tryz.prog 15 f15.slim = true := by kernel_rfl
theorem okf18 : okFn Tryz.prog 18 f18.slim = true := by kernel_rfl
theorem okf31 : okFn Tryz.prog 31 f31.slim = true := by kernel_rfl
theorem okf32 : okFn Tryz.prog 32 f32.slim = true := by kernel_rfl
theorem okf33 : okFn Tryz.prog 33 f33.slim = true := by kernel_rfl
theorem okf34 : okFn Tryz.prog 34 f34.slim = true := by kernel_rfl
theorem okf35 : okFn Tryz.prog 35 f35.slim = true := by kernel_rfl
theorem okf36 : okFn Tryz.prog 36 f36.slim = true := by kernel_rfl
theorem okf37 : okFn Tryz.prog 37 f37.slim = true := by kernel_rfl
theorem okf38 : okFn Tryz.prog 38 f38.slim = true := by kernel_rfl
theorem okf39 : okFn Tryz.prog 39 f39.slim = true := by kernel_rfl
theorem okf40 : okFn Tryz.prog 40 f40.slim = true := by kernel_rfl
theorem okf41 : okFn Tryz.prog 41 f41.slim = true := by kernel_rfl
theorem okf42 : okFn Tryz.prog 42 f42.slim = true := by kernel_rfl
theorem okf43 : okFn Tryz.prog 43 f43.slim = true := by kernel_rfl
theorem okf44 : okFn Tryz.prog 44 f44.slim = true := by kernel_rfl
theorem okf45 : okFn Tryz.prog 45 f45.slim = true := by kernel_rfl
theorem okf46 : okFn Tryz.prog 46 f46.slim = true := by kernel_rfl
theorem okf47 : okFn Tryz.prog 47 f47.slim = true := by kernel_rfl
theorem okf48 : okFn Tryz.prog 48 f48.slim = true := by kernel_rfl
theorem okf49 : okFn Tryz.prog 49 f49.slim = true := by kernel_rfl
theorem okf50 : okFn Tryz.prog 50 f50.slim = true := by kernel_rfl
theorem okf51 : okFn Tryz.prog 51 f51.slim = true := by kernel_rfl
theorem okf52 : okFn Tryz.prog 52 f52.slim = true := by kernel_rfl
theorem okf53 : okFn Tryz.prog 53 f53.slim = true := by kernel_rfl
theorem okf54 : okFn Tryz.prog 54 f54.slim = true := by kernel_rfl
theorem okf55 : okFn Tryz.prog 55 f55.slim = true := by kernel_rfl
theorem okf56 : okFn Tryz.prog 56 f56.slim = true := by kernel_rfl
theorem okf57 : okFn Tryz.prog 57 f57.slim = true := by kernel_rfl
theorem okf58 : okFn Tryz.prog 58 f58.slim = true := by kernel_rfl
theorem okf61 : okFn Tryz.prog 61 f61.slim = true := by kernel_rfl
theorem okf62 : okFn Tryz.prog 62 f62.slim = true := by kernel_rfl
theorem okf67 : okFn Tryz.prog 67 f67.slim = true := by kernel_rfl
theorem okf71 : okFn Tryz.prog 71 f71.slim = true := by kernel_rfl
theorem okf76 : okFn Tryz.prog 76 f76.slim = true := by kernel_rfl
theorem okf88 : okFn Tryz.prog 88 f88.slim = true := by kernel_rfl
theorem okf89 : okFn Tryz.prog 89 f89.slim = true := by kernel_rfl
theorem okf90 : okFn Tryz.prog 90 f90.slim = true := by kernel_rfl
theorem okf91 : okFn Tryz.prog 91 f91.slim = true := by kernel_rfl
theorem okf92 : okFn Tryz.prog 92 f92.slim = true := by kernel_rfl
theorem okf93 : okFn Tryz.prog 93 f93.slim = true := by kernel_rfl
theorem okf94 : okFn Tryz.prog 94 f94.slim = true := by kernel_rfl
theorem okf95 : okFn Tryz.prog 95 f95.slim = true := by kernel_rfl
theorem okf96 : okFn Tryz.prog 96 f96.slim = true := by kernel_rfl
theorem okf97 : okFn Tryz.prog 97 f97.slim = true := by kernel_rfl
theorem okf98 : okFn Tryz.prog 98 f98.slim = true := by kernel_rfl
theorem okf99 : okFn Tryz.prog 99 f99.slim = true := by kernel_rfl
theorem okf100 : okFn Tryz.prog 100 f100.slim = true := by kernel_rfl
theorem okf101 : okFn Tryz.prog 101 f101.slim = true := by kernel_rfl
theorem okf102 : okFn Tryz.prog 102 f102.slim = true := by kernel_rfl
theorem okf103 : okFn Tryz.prog 103 f103.slim = true := by kernel_rfl
theorem okf104 : okFn Tryz.prog 104 f104.slim = true := by kernel_rfl
theorem okf105 : okFn Tryz.prog 105 f105.slim = true := by kernel_rfl
theorem okf106 : okFn Tryz.prog 106 f106.slim = true := by kernel_rfl
theorem okf107 : okFn Tryz.prog 107 f107.slim = true := by kernel_rfl
theorem okf108 : okFn Tryz.prog 108 f108.slim = true := by kernel_rfl
theorem okf109 : okFn Tryz.prog 109 f109.slim = true := by kernel_rfl
theorem okf132 : okFn Tryz.prog 132 f132.slim = true := by kernel_rfl
theorem okf133 : okFn Tryz.prog 133 f133.slim = true := by kernel_rfl
theorem okf144 : okFn Tryz.prog 144 f144.slim = true := by kernel_rfl
theorem okf156 : okFn Tryz.prog 156 f156.slim = true := by kernel_rfl
theorem okf157 : okFn Tryz.prog 157 f157.slim = true := by kernel_rfl
theorem okf158 : okFn Tryz.prog 158 f158.slim = true := by kernel_rfl
theorem okf159 : okFn Tryz.prog 159 f159.slim = true := by kernel_rfl
theorem okf160 : okFn Tryz.prog 160 f160.slim = true := by kernel_rfl
theorem okf161 : okFn Tryz.prog 161 f161.slim = true := by kernel_rfl
theorem okf169 : okFn Tryz.prog 169 f169.slim = true := by kernel_rfl
theorem okf181 : okFn Tryz.prog 181 f181.slim = true := by kernel_rfl
theorem okf191 : okFn Tryz.prog 191 f191.slim = true := by kernel_rfl
theorem okf192 : okFn Tryz.prog 192 f192.slim = true := by kernel_rfl
theorem okf205 : okFn Tryz.prog 205 f205.slim = true := by kernel_rfl
theorem okf206 : okFn Tryz.prog 206 f206.slim = true := by kernel_rfl
theorem okf207 : okFn Tryz.prog 207 f207.slim = true := by kernel_rfl
theorem okf208 : okFn Tryz.prog 208 f208.slim = true := by kernel_rfl
theorem okf209 : okFn Tryz.prog 209 f209.slim = true := by kernel_rfl
theorem okf210 : okFn Tryz.prog 210 f210.slim = true := by kernel_rfl
theorem okf211 : okFn Tryz.prog 211 f211.slim = true := by kernel_rfl
theorem okf212 : okFn Tryz.prog 212 f212.slim = true := by kernel_rfl
theorem okf213 : okFn Tryz.prog 213 f213.slim = true := by kernel_rfl
theorem okf214 : okFn Tryz.prog 214 f214.slim = true := by kernel_rfl
theorem okf215 : okFn Tryz.prog 215 f215.slim = true := by kernel_rfl
theorem okf216 : okFn Tryz.prog 216 f216.slim = true := by kernel_rfl
theorem okf230 : okFn Tryz.prog 230 f230.slim = true := by kernel_rfl
theorem okf239 : okFn Tryz.prog 239 f239.slim = true := by kernel_rfl
theorem okf240 : okFn Tryz.prog 240 f240.slim = true := by kernel_rfl
theorem okf241 : okFn Tryz.prog 241 f241.slim = true := by kernel_rfl
theorem okf243 : okFn Tryz.prog 243 f243.slim = true := by kernel_rfl
theorem okf244 : okFn Tryz.prog 244 f244.slim = true := by kernel_rfl
theorem okf252 : okFn Tryz.prog 252 f252.slim = true := by kernel_rfl
theorem okf253 : okFn Tryz.prog 253 f253.slim = true := by kernel_rfl
theorem okf254 : okFn Tryz.prog 254 f254.slim = true := by kernel_rfl
theorem okf255 : okFn Tryz.prog 255 f255.slim = true := by kernel_rfl
theorem okf256 : okFn Tryz.prog 256 f256.slim = true := by kernel_rfl
theorem okf257 : okFn Tryz.prog 257 f257.slim = true := by kernel_rfl
theorem okf258 : okFn Tryz.prog 258 f258.slim = true := by kernel_rfl
theorem okf259 : okFn Tryz.prog 259 f259.slim = true := by kernel_rfl
theorem okf260 : okFn Tryz.prog 260 f260.slim = true := by kernel_rfl
theorem okf289 : okFn Tryz.prog 289 f289.slim = true := by kernel_rfl
theorem okf290 : okFn Tryz.prog 290 f290.slim = true := by kernel_rfl
theorem okf291 : okFn Tryz.prog 291 f291.slim = true := by kernel_rfl
theorem okf292 : okFn Tryz.prog 292 f292.slim = true := by kernel_rfl
theorem okf293 : okFn Tryz.prog 293 f293.slim = true := by kernel_rfl
theorem okf303 : okFn Tryz.prog 303 f303.slim = true := by kernel_rfl
theorem okf304 : okFn Tryz.prog 304 f304.slim = true := by kernel_rfl
theorem ft_ok : ft.OK Tryz.prog := ⟨⟨⟨⟨⟨⟨okf3, ⟨okf9, okf10⟩⟩, ⟨okf11, ⟨okf12, okf13⟩⟩⟩, ⟨⟨okf14, ⟨okf15, okf18⟩⟩, ⟨⟨okf31, okf32⟩, ⟨okf33, okf34⟩⟩⟩⟩, ⟨⟨⟨okf35, ⟨okf36, okf37⟩⟩, ⟨⟨okf38, okf39⟩, ⟨okf40, okf41⟩⟩⟩, ⟨⟨okf42, ⟨okf43, okf44⟩⟩, ⟨⟨okf45, okf46⟩, ⟨okf47, okf48⟩⟩⟩⟩⟩, ⟨⟨⟨⟨okf49, ⟨okf50, okf51⟩⟩, ⟨⟨okf52, okf53⟩, ⟨okf54, okf55⟩⟩⟩, ⟨⟨okf56, ⟨okf57, okf58⟩⟩, ⟨⟨okf61, okf62⟩, ⟨okf67, okf71⟩⟩⟩⟩, ⟨⟨⟨okf76, ⟨okf88, okf89⟩⟩, ⟨⟨okf90, okf91⟩, ⟨okf92, okf93⟩⟩⟩, ⟨⟨okf94, ⟨okf95, okf96⟩⟩, ⟨⟨okf97, okf98⟩, ⟨okf99, okf100⟩⟩⟩⟩⟩⟩, ⟨⟨⟨⟨⟨okf101, ⟨okf102, okf103⟩⟩, ⟨⟨okf104, okf105⟩, ⟨okf106, okf107⟩⟩⟩, ⟨⟨okf108, ⟨okf109, okf132⟩⟩, ⟨⟨okf133, okf144⟩, ⟨okf156, okf157⟩⟩⟩⟩, ⟨⟨⟨okf158, ⟨okf159, okf160⟩⟩, ⟨⟨okf161, okf169⟩, ⟨okf181, okf191⟩⟩⟩, ⟨⟨okf192, ⟨okf205, okf206⟩⟩, ⟨⟨okf207, okf208⟩, ⟨okf209, okf210⟩⟩⟩⟩⟩, ⟨⟨⟨⟨okf211, ⟨okf212, okf213⟩⟩, ⟨⟨okf214, okf215⟩, ⟨okf216, okf230⟩⟩⟩, ⟨⟨okf239, ⟨okf240, okf241⟩⟩, ⟨⟨okf243, okf244⟩, ⟨okf252, okf253⟩⟩⟩⟩, ⟨⟨⟨okf254, ⟨okf255, okf256⟩⟩, ⟨⟨okf257, okf258⟩, ⟨okf259, okf260⟩⟩⟩, ⟨⟨okf289, ⟨okf290, okf291⟩⟩, ⟨⟨okf292, okf293⟩, ⟨okf303, okf304⟩⟩⟩⟩⟩⟩⟩
end Go.AM.JA
set_option maxRecDepth 100000
namespace Go.AM.JS
open Go.Proofs
def s10 : SFn := ⟨28, [.tmp 4, .tmp 5],
 (.seq (.region [⟨(some 4), .mov (.c (.int .i64 0)), [], none⟩,
 ⟨(some 5), .mov (.c (.int .i64 0)), [0], none⟩] [] [4, 5])
 (.seq (.region [⟨(some 9), .mov (.t 0), [], none⟩,
 ⟨(some 10), .bin .rem (.t 9) (.c (.int .u8 5)), [0], none⟩,
 ⟨(some 11), .conv .i64 (.t 10), [1], none⟩,
 ⟨(some 12), .bin .add (.c (.int .i64 1)) (.t 11), [2], none⟩,
 ⟨(some 6), .mov (.t 12), [3, 0, 1, 2, 3], none⟩] [] [0, 9, 10, 11, 12])
 (.seq (.region [⟨(some 14), .mov (.t 6), [], none⟩,
 ⟨(some 15), .call .pure (.f 33) [(.t 14)], [0], none⟩,
 ⟨(some 13), .mov (.t 15), [1], none⟩,
 ⟨(some 16), .extract 0 (.t 13), [2], none⟩,
 ⟨(some 17), .extract 1 (.t 13), [2], none⟩,
 ⟨(some 7), .mov (.t 16), [3, 1, 0, 1, 2, 3], none⟩,
 ⟨(some 8), .mov (.t 17), [4, 5, 0, 1, 2, 3, 4, 5], none⟩] [] [14, 15, 13, 16, 17])
 (.seq (.region [⟨(some 18), .mov (.t 6), [], none⟩,
 ⟨(some 19), .mov (.t 7), [], none⟩,
 ⟨(some 20), .mov (.t 1), [], none⟩,
 ⟨(some 21), .conv .i64 (.t 20), [2], none⟩,
 ⟨(some 22), .mov (.t 8), [], none⟩,
 ⟨(some 23), .mov (.t 7), [], none⟩,
 ⟨(some 24), .bin .sub (.t 22) (.t 23), [4, 5], none⟩,
 ⟨(some 25), .bin .add (.t 24) (.c (.int .i64 1)), [6], none⟩,
 ⟨(some 26), .bin .rem (.t 21) (.t 25), [3, 7], none⟩,
 ⟨(some 27), .bin .add (.t 19) (.t 26), [1, 8], none⟩,
 ⟨(some 4), .mov (.t 18), [0, 0], none⟩,
 ⟨(some 5), .mov (.t 27), [9, 10, 0, 1, 2, 3, 4, 5, 6, 7, 8, 9, 10], none⟩] [] [1, 6, 7, 8, 18, 19, 20, 21, 22, 23, 24, 25, 26, 27])
 .ret))))⟩
def s33 : SFn := ⟨20, [.tmp 2, .tmp 3],
 (.seq (.region [⟨(some 2), .mov (.c (.int .i64 0)), [], none⟩,
 ⟨(some 3), .mov (.c (.int .i64 0)), [0], none⟩] [] [2, 3])
 (.seq (.seq (.region [⟨(some 4), .mov (.t 0), [], none⟩,
 ⟨(some 5), .bin .lss (.t 4) (.c (.int .i64 1)), [0], none⟩,
 ⟨(some 6), .mov (.t 5), [1], none⟩,
 ⟨(some 7), .mov (.t 0), [2], (some (6, false))⟩,
 ⟨(some 8), .bin .gtr (.t 7) (.c (.int .i64 5)), [3, 2], (some (6, false))⟩,
 ⟨(some 9), .pick (.t 6) (.c (.bool true)) (.t 8), [2, 4], none⟩] [] [4, 5, 6, 7, 8])
 (.cond (.t 9)
 (.seq (.region [⟨(some 2), .mov (.c (.int .i64 0)), [], none⟩,
 ⟨(some 3), .mov (.c (.int .i64 0)), [0, 0], none⟩] [] [0, 9])
 .ret)
 .skip))
 (.seq (.region [⟨(some 10), .bslice false .dyn 1 5 [(.int .i64 0), (.int .i64 0), (.int .i64 0), (.int .i64 0), (.int .i64 0)] [(0, 1, (.c (.int .i64 1))), (1, 1, (.c (.int .i64 2))), (2, 1, (.c (.int .i64 2))), (3, 1, (.c (.int .i64 2))), (4, 1, (.c (.int .i64 2)))], [], none⟩,
 ⟨(some 11), .mov (.t 0), [], none⟩,
 ⟨(some 12), .bin .sub (.t 11) (.c (.int .i64 1)), [1], none⟩,
 ⟨(some 13), .iaddr none 1 (.t 10) (.t 12), [0, 2], none⟩,
 ⟨(some 14), .load none (.t 13), [3], none⟩,
 ⟨(some 15), .bslice false .dyn 1 5 [(.int .i64 0), (.int .i64 0), (.int .i64 0), (.int .i64 0), (.int .i64 0)] [(0, 1, (.c (.int .i64 8))), (1, 1, (.c (.int .i64 6))), (2, 1, (.c (.int .i64 4))), (3, 1, (.c (.int .i64 8))), (4, 1, (.c (.int .i64 6)))], [], none⟩,
 ⟨(some 16), .mov (.t 0), [], none⟩,
 ⟨(some 17), .bin .sub (.t 16) (.c (.int .i64 1)), [6], none⟩,
 ⟨(some 18), .iaddr none 1 (.t 15) (.t 17), [5, 7], none⟩,
 ⟨(some 19), .load none (.t 18), [8], none⟩,
 ⟨(some 2), .mov (.t 14), [4, 0, 1, 2, 3, 4], none⟩,
 ⟨(some 3), .mov (.t 19), [9, 10, 0, 1, 2, 3, 4, 5, 6, 7, 8, 9, 10], none⟩] [(0, 9)] [0, 9, 10, 11, 12, 13, 14, 15, 16, 17, 18, 19])
 .ret)))⟩
def ft : FT := (.n 33 (.l 10 s10) (.l 33 s33))
theorem ok10 : okFn Tryz.prog 10 s10 = true := by kernel_rfl
theorem ok33 : okFn Tryz.prog 33 s33 = true := by kernel_rfl
theorem ft_ok : ft.OK Tryz.prog := ⟨ok10, ok33⟩
end Go.AM.JS
set_option linter.unusedSimpArgs false
set_option linter.unusedVariables false
namespace Go.AM
variable {P : Program}
section
variable {N : NM} {n : Nat} {d : Option Nat} {af dead : List Nat} {r : List SOper} {T : Tmps} {h : Heap} {Q : QC} {fs : List Fr}
theorem get_same {k : Nat} {x : Blk} (hk : k < 1099511627775) : (h.set k x).get k = some x := by rw [Tr.get_set h hk]; simp
theorem get_ne {j k : Nat} {x : Blk} (hk : k < 1099511627775) (hj : j ≠ k) : (h.set k x).get j = h.get j := by rw [Tr.get_set h hk]; simp [hj]
end
def Fresh (n : Nat) (h : Heap) : Prop := ∀ b, n ≤ b → h.get b = none
theorem Fresh.e {n : Nat} : Fresh n .e := fun b _ => by simp [Tr.get]
theorem Fresh.set {n k : Nat} {h : Heap} {x : Blk} (hf : Fresh n h) (hk : k < 1099511627775) (hl : k < n) : Fresh n (h.set k x) := fun b hb => by
  rw [get_ne hk (by omega)]; exact hf b hb
end Go.AM
set_option linter.unusedSimpArgs false
set_option linter.unusedVariables false
namespace Go.AM
variable {P : Program}
def FrzTo (h : Heap) (x y : AV) : Prop := ∀ (ok : Okc) (c : Ctx ok) (w : World) (v : Value), HRel c h w → VRel c w x v → VRel (lent c) w y v
def FrzL (h : Heap) : List AV → List AV → Prop
  | [], [] => True
  | x :: xs, y :: ys => FrzTo h x y ∧ FrzL h xs ys
  | _, _ => False
variable {h : Heap}
theorem FrzTo.same (x : AV) : FrzTo h x x := fun _ c w v _ hv => VRel.mono (lent_ext c w) _ _ hv
theorem FrzL.same : ∀ (xs : List AV), FrzL h xs xs
  | [] => trivial
  | x :: xs => ⟨.same x, FrzL.same xs⟩
theorem FrzL.length : ∀ {xs ys : List AV}, FrzL h xs ys → ys.length = xs.length
  | [], [], _ => rfl
  | [], _ :: _, hh => hh.elim
  | _ :: _, [], hh => hh.elim
  | x :: xs, y :: ys, hh => by simp [FrzL.length hh.2]
theorem FrzL.append : ∀ {xs ys us vs : List AV}, FrzL h xs ys → FrzL h us vs → FrzL h (xs ++ us) (ys ++ vs)
  | [], [], _, _, _, h2 => h2
  | [], _ :: _, _, _, hh, _ => hh.elim
  | _ :: _, [], _, _, hh, _ => hh.elim
  | x :: xs, y :: ys, _, _, hh, h2 => ⟨hh.1, FrzL.append hh.2 h2⟩
theorem FrzL.pre {ok : Okc} {c : Ctx ok} {w : World} (H : HRel c h w) : ∀ {xs ys : List AV} {vs : List Value}, FrzL h xs ys → VPre c w xs vs → VPre (lent c) w ys vs
  | [], [], _, _, _ => by simp [VPre]
  | [], _ :: _, _, hh, _ => hh.elim
  | _ :: _, [], _, hh, _ => hh.elim
  | x :: xs, y :: ys, vs, hh, hv => by
    simp only [VPre] at hv ⊢
    obtain ⟨v, vs', rfl, g1, g2⟩ := hv
    exact ⟨v, vs', rfl, hh.1 _ c w v H g1, FrzL.pre H hh.2 g2⟩
theorem FrzL.rels {ok : Okc} {c : Ctx ok} {w : World} (H : HRel c h w) : ∀ {xs ys : List AV} {vs : List Value}, FrzL h xs ys → VRels c w xs vs → VRels (lent c) w ys vs
  | [], [], _, _, hv => by simpa [VRels] using hv
  | [], _ :: _, _, hh, _ => hh.elim
  | _ :: _, [], _, hh, _ => hh.elim
  | x :: xs, y :: ys, vs, hh, hv => by
    simp only [VRels] at hv ⊢
    obtain ⟨v, vs', rfl, g1, g2⟩ := hv
    exact ⟨v, vs', rfl, hh.1 _ c w v H g1, FrzL.rels H hh.2 g2⟩
theorem FrzTo.nil {sz : Nat} : FrzTo h .nilsl (.fsl [] 0 sz) := fun _ c w v _ hv => by
  simp only [VRel] at hv ⊢
  exact .inl ⟨⟨none, hv⟩, by simp⟩
theorem FrzTo.agg {xs ys : List AV} (hL : FrzL h xs ys) : FrzTo h (.agg xs) (.agg ys) := fun _ c w v H hv => by
  simp only [VRel] at hv ⊢
  obtain ⟨vs, rfl, hv⟩ := hv
  exact ⟨vs, rfl, hL.rels H hv⟩
theorem FrzTo.tup {xs ys : List AV} (hL : FrzL h xs ys) : FrzTo h (.tup xs) (.tup ys) := fun _ c w v H hv => by
  simp only [VRel] at hv ⊢
  obtain ⟨vs, rfl, hv⟩ := hv
  exact ⟨vs, rfl, hL.rels H hv⟩
theorem FrzTo.sl {b g off len sz : Nat} {cs ys : List AV} (hb : h.get b = some (.cells g cs)) (hl : off + len * sz ≤ cs.length) (hL : FrzL h ((cs.drop off).take (len * sz)) ys) :
    FrzTo h (.sl b g off len sz) (.fsl ys len sz) := fun _ c w v H hv => by
  have hlen := hL.length
  simp only [VRel] at hv
  rcases hv with ⟨hp, rfl, rfl, rfl⟩ | ⟨cb, base, o, cap, C, e, fr, hp, rfl, hlc, hC, hcap⟩
  · have hys : ys = [] := by
      apply List.eq_nil_of_length_eq_zero
      rw [hlen]; simp
    subst hys
    simp only [VRel]; exact .inl (by simp)
  · obtain ⟨C', e', fr', hO, hC', hfr, hbs, hpre⟩ := H.here hb hp
    rw [hC] at hC'; cases hC'
    by_cases h0 : cap = 0
    · have hl0 : len = 0 := by omega
      subst hl0
      have hys : ys = [] := by
        apply List.eq_nil_of_length_eq_zero
        rw [hlen]; simp
      subst hys
      simp only [VRel]
      exact .inr ⟨cb, o, cap, C, e, fr, rfl, hlc, by simp, .inr hO, hC, by simp [VPre]⟩
    · obtain ⟨rfl, hbd⟩ := hcap.resolve_left h0
      have hp2 := VPre_take (len * sz) (VPre_drop off hpre)
      rw [List.drop_drop] at hp2
      simp only [VRel]
      exact .inr ⟨cb, base + off, cap, C, e, fr, rfl, hlc, by rw [hlen]; simp; omega, .inr hO, hC, hL.pre H hp2⟩
theorem PSpec.of_frz {f : Nat} {sf : SFn} {args : List AV} {v : AV} (n : Nat) (hok : okFn P f sf = true) (hl : Nat.ble args.length sf.n = true) (ha : noRefs args = true) (hv : noRef v = true)
    (hw : wS P ⟨sf.n, 0⟩ sf.body [] n (argT 0 args) .e fun e T h _ => (e = .normal ∨ e = .ret) ∧ ∃ vs, resV T h sf.res = some vs ∧ FrzTo h (resOf vs) v) : PSpec P f args v :=
  PSpec.of_W2 hok (Nat.le_of_ble_eq_true hl) ha hv ((wpC.toW hw).mono fun e B ⟨_, h1, vs, h2, h3⟩ => ⟨h1, vs, h2, Rn.of_frz hv h3⟩)
def Row (h : Heap) (ok : Nat → Prop) (v : AV) (cs : List AV) (len sz : Nat) : Prop :=
  (v = .nilsl ∧ cs = [] ∧ len = 0) ∨ ∃ b g, v = .sl b g 0 len sz ∧ h.get b = some (.cells g cs) ∧ cs.length = len * sz ∧ ok b
theorem Row.nil {ok : Nat → Prop} {sz : Nat} : Row h ok .nilsl [] 0 sz := .inl ⟨rfl, rfl, rfl⟩
theorem Row.keep {h h' : Heap} {ok ok' : Nat → Prop} {v : AV} {cs : List AV} {len sz : Nat} (hr : Row h ok v cs len sz) (hk : ∀ b, ok b → h.get b ≠ none → h'.get b = h.get b ∧ ok' b) : Row h' ok' v cs len sz := by
  rcases hr with hr | ⟨b, g, h1, h2, h3, h4⟩
  · exact .inl hr
  · obtain ⟨k1, k2⟩ := hk b h4 (by rw [h2]; simp)
    exact .inr ⟨b, g, h1, by rw [k1]; exact h2, h3, k2⟩
theorem Row.frz {ok : Nat → Prop} {v : AV} {cs ys : List AV} {len sz : Nat} (hr : Row h ok v cs len sz) (hL : FrzL h cs ys) : FrzTo h v (.fsl ys len sz) := by
  rcases hr with ⟨rfl, rfl, rfl⟩ | ⟨b, g, rfl, h2, h3, h4⟩
  · cases ys with
    | nil => exact FrzTo.nil
    | cons y ys => exact hL.elim
  · refine FrzTo.sl h2 (by omega) ?_
    rw [List.drop_zero, ← h3, List.take_length]; exact hL
theorem Row.len {ok : Nat → Prop} {v : AV} {cs : List AV} {len sz : Nat} (hr : Row h ok v cs len sz) : cs.length = len * sz := by
  rcases hr with ⟨_, rfl, rfl⟩ | ⟨_, _, _, _, h3, _⟩
  · simp
  · exact h3
section
variable {N : NM} {n : Nat} {d : Option Nat} {af dead : List Nat} {r : List SOper} {T : Tmps} {Q : QC} {fs : List Fr}
end
end Go.AM
set_option linter.unusedSimpArgs false
set_option linter.unusedVariables false
namespace Go.AM
variable {P : Program}
def blkOf : AV → Option Nat
  | .sl b _ _ _ _ => some b
  | _ => none
structure Mat (h : Heap) (n lo : Nat) (v : AV) (rows : List AV) (L : List (List Int)) : Prop where
  len : rows.length = L.length
  out : Row h (fun b => blkOf v = some b ∧ lo < b ∧ b < n) v rows rows.length 1
  row : ∀ (j : Nat) (r : AV) (l : List Int), rows[j]? = some r → L[j]? = some l → Row h (fun b => lo < b ∧ b < n ∧ blkOf v ≠ some b) r (l.map (.int .i64)) l.length 1
theorem Mat.nil {h : Heap} {n lo : Nat} : Mat h n lo .nilsl [] [] := ⟨rfl, .nil, fun j r l hr => by simp at hr⟩
theorem Mat.keep {h h' : Heap} {n n' lo : Nat} {v : AV} {rows : List AV} {L : List (List Int)} (m : Mat h n lo v rows L) (hn : n ≤ n') (hk : ∀ b, lo < b → b < n → h'.get b = h.get b) : Mat h' n' lo v rows L :=
  ⟨m.len, m.out.keep fun b hb _ => ⟨hk b hb.2.1 hb.2.2, hb.1, hb.2.1, by omega⟩, fun j r l h1 h2 => (m.row j r l h1 h2).keep fun b hb _ => ⟨hk b hb.1 hb.2.1, hb.1, by omega, hb.2.2⟩⟩
theorem Mat.frzL {h : Heap} {n lo : Nat} {v : AV} {rows : List AV} {L : List (List Int)} (m : Mat h n lo v rows L) : FrzL h rows (L.map fun l => .fsl (l.map (.int .i64)) l.length 1) := by
  have key : ∀ (rows : List AV) (L : List (List Int)), rows.length = L.length → (∀ (j : Nat) (r : AV) (l : List Int), rows[j]? = some r → L[j]? = some l → FrzTo h r (.fsl (l.map (.int .i64)) l.length 1)) →
      FrzL h rows (L.map fun l => .fsl (l.map (.int .i64)) l.length 1) := by
    intro rows
    induction rows with
    | nil => intro L hl _; cases L with | nil => trivial | cons a L => simp at hl
    | cons r rows ih =>
      intro L hl hh
      cases L with
      | nil => simp at hl
      | cons a L => exact ⟨hh 0 r a rfl rfl, ih L (by simpa using hl) fun j r l h1 h2 => hh (j + 1) r l (by simpa using h1) (by simpa using h2)⟩
  exact key rows L m.len fun j r l h1 h2 => (m.row j r l h1 h2).frz (FrzL.same _)
theorem Mat.frz {h : Heap} {n lo : Nat} {v : AV} {rows : List AV} {L : List (List Int)} (m : Mat h n lo v rows L) : FrzTo h v (.fsl (L.map fun l => .fsl (l.map (.int .i64)) l.length 1) L.length 1) := by
  have := m.out.frz m.frzL
  rwa [m.len] at this
theorem Row.one {h : Heap} {ok : Nat → Prop} {v : AV} {cs : List AV} {len sz : Nat} (hr : Row h ok v cs len sz) : v.one = true := by
  rcases hr with ⟨rfl, _⟩ | ⟨_, _, rfl, _⟩ <;> rfl
theorem Row.boxable {h : Heap} {ok : Nat → Prop} {v : AV} {cs : List AV} {len sz : Nat} (hr : Row h ok v cs len sz) : v.boxable = true := by
  rcases hr with ⟨rfl, _⟩ | ⟨_, _, rfl, _⟩ <;> rfl
section
variable {N : NM} {n : Nat} {d : Option Nat} {dead : List Nat} {r : List SOper} {T : Tmps} {Q : QC} {fs : List Fr}
end
end Go.AM
set_option linter.unusedSimpArgs false
set_option linter.unusedVariables false
namespace Go.AM
variable {P : Program}
abbrev HL := List (Nat × Blk)
def hp : HL → Heap
  | [] => .e
  | p :: r => (hp r).set p.1 p.2
theorem get_e {b : Nat} : Tr.get (α := Blk) .e b = none := by simp [Tr.get]
def lkS : List (Nat × Src) → Nat → Option Src
  | [], _ => none
  | (b, s) :: r, k => if k = b then some s else lkS r k
def srcNew (s : Src) : List (Nat × Src) → Bool
  | [] => true
  | (_, t) :: r => (match s, t with | .blk b _, .blk b' _ => !Nat.beq b b' | _, _ => true) && srcNew s r
def okPs (m : Nat) : List (Nat × Src) → HL → Bool
  | [], [] => true
  | (b, s) :: r, (b', _) :: l => Nat.beq b b' && Nat.blt b 1099511627775 && (Nat.blt b m || ((match s with | .blk k _ => Nat.ble m k | .nil => true) && srcNew s r)) && (r.all fun p => !Nat.beq p.1 b) && okPs m r l
  | _, _ => false
def ow (m : Nat) (ps : List (Nat × Src)) : Nat → Option Src := fun b => if b < m then none else lkS ps b
def RB (m : Nat) (π : Nat → Option Src) (h : Heap) : HL → Prop
  | [] => True
  | (b', x) :: r => ((b' < m ∧ BRn m π h (some (.blk b' x.gen)) x) ∨ (m ≤ b' ∧ x.gen = 0 ∧ (∀ g, x ≠ .dead g) ∧ BRn m π h (π b') x)) ∧ RB m π h r
section
variable {m : Nat} {π : Nat → Option Src} {h : Heap}
theorem hp_get : ∀ {L : HL} {ps : List (Nat × Src)}, okPs m ps L = true → ∀ {b : Nat} {x : Blk}, (hp L).get b = some x → (b, x) ∈ L
  | [], [], _, b, x, hx => by simp [hp, Tr.get] at hx
  | [], _ :: _, hh, _, _, _ => by simp [okPs] at hh
  | (b', x') :: L, [], hh, _, _, _ => by simp [okPs] at hh
  | (b', x') :: L, (k, s) :: ps, hh, b, x, hx => by
    simp only [okPs, Bool.and_eq_true, Nat.blt_eq, Nat.beq_eq] at hh
    obtain ⟨⟨⟨⟨rfl, h3⟩, _⟩, _⟩, h4⟩ := hh
    simp only [hp] at hx
    by_cases e : b = k
    · subst e
      rw [get_same h3] at hx; cases hx
      simp
    · rw [get_ne h3 e] at hx
      simp [hp_get h4 hx]
theorem hp_none : ∀ {L : HL} {ps : List (Nat × Src)}, okPs m ps L = true → ∀ {b : Nat}, (hp L).get b = none → lkS ps b = none
  | [], [], _, b, _ => rfl
  | [], _ :: _, hh, _, _ => by simp [okPs] at hh
  | (b', x') :: L, [], hh, _, _ => by simp [okPs] at hh
  | (b', x') :: L, (k, s) :: ps, hh, b, hx => by
    simp only [okPs, Bool.and_eq_true, Nat.blt_eq, Nat.beq_eq] at hh
    obtain ⟨⟨⟨⟨rfl, h3⟩, _⟩, _⟩, h4⟩ := hh
    simp only [hp] at hx
    by_cases e : b = k
    · subst e
      rw [get_same h3] at hx; cases hx
    · rw [get_ne h3 e] at hx
      simp only [lkS, if_neg e]
      exact hp_none h4 hx
theorem RB.mem : ∀ {L : HL}, RB m π h L → ∀ {b : Nat} {x : Blk}, (b, x) ∈ L → (b < m ∧ BRn m π h (some (.blk b x.gen)) x) ∨ (m ≤ b ∧ x.gen = 0 ∧ (∀ g, x ≠ .dead g) ∧ BRn m π h (π b) x)
  | [], _, _, _, hm => by cases hm
  | (b', x') :: L, hh, b, x, hm => by
    rcases List.mem_cons.1 hm with e | hm
    · cases e; exact hh.1
    · exact RB.mem hh.2 hm
theorem okPs_src : ∀ {ps : List (Nat × Src)} {L : HL}, okPs m ps L = true → ∀ {b b1 g : Nat}, m ≤ b → lkS ps b = some (.blk b1 g) → m ≤ b1
  | [], _, _, _, _, _, _, hs => by simp [lkS] at hs
  | _ :: _, [], hh, _, _, _, _, _ => by simp [okPs] at hh
  | (k, s) :: ps, (b', x') :: L, hh, b, b1, g, hb, hs => by
    simp only [okPs, Bool.and_eq_true, Bool.or_eq_true, Nat.blt_eq] at hh
    obtain ⟨⟨⟨_, h3⟩, _⟩, h4⟩ := hh
    simp only [lkS] at hs
    split at hs
    · rename_i e
      cases hs
      rcases h3 with h3 | h3
      · omega
      · simpa using h3.1
    · exact okPs_src h4 hb hs
theorem srcNew_ne : ∀ {ps : List (Nat × Src)} {b g b' g' k : Nat}, srcNew (.blk b g) ps = true → lkS ps k = some (.blk b' g') → b ≠ b'
  | [], _, _, _, _, _, _, hs => by simp [lkS] at hs
  | (j, s) :: ps, b, g, b', g', k, hh, hs => by
    simp only [srcNew, Bool.and_eq_true] at hh
    simp only [lkS] at hs
    split at hs
    · cases hs
      have := hh.1
      simp only [Bool.not_eq_true'] at this
      intro e; subst e; simp at this
    · exact srcNew_ne hh.2 hs
theorem okPs_inj : ∀ {ps : List (Nat × Src)} {L : HL}, okPs m ps L = true → ∀ {b1 b2 b g g2 : Nat}, m ≤ b1 → m ≤ b2 → lkS ps b1 = some (.blk b g) → lkS ps b2 = some (.blk b g2) → b1 = b2
  | [], _, _, _, _, _, _, _, _, _, hs, _ => by simp [lkS] at hs
  | _ :: _, [], hh, _, _, _, _, _, _, _, _, _ => by simp [okPs] at hh
  | (k, s) :: ps, (b', x') :: L, hh, b1, b2, b, g, g2, m1, m2, h1, h2 => by
    simp only [okPs, Bool.and_eq_true, Bool.or_eq_true, Nat.blt_eq] at hh
    obtain ⟨⟨⟨_, hn⟩, _⟩, h4⟩ := hh
    simp only [lkS] at h1 h2
    split at h1 <;> split at h2
    · rename_i e1 e2; rw [e1, e2]
    · rename_i e1 e2
      cases h1
      rcases hn with hn | hn
      · omega
      · exact absurd rfl (srcNew_ne hn.2 h2)
    · rename_i e1 e2
      cases h2
      rcases hn with hn | hn
      · omega
      · exact absurd rfl (srcNew_ne hn.2 h1)
    · exact okPs_inj h4 m1 m2 h1 h2
theorem lkS_mem : ∀ {ps : List (Nat × Src)} {L : HL}, okPs m ps L = true → ∀ {b : Nat} {s : Src}, lkS ps b = some s → ∃ x, (b, x) ∈ L
  | [], _, _, _, _, hs => by simp [lkS] at hs
  | _ :: _, [], hh, _, _, _ => by simp [okPs] at hh
  | (k, t) :: ps, (b', x') :: L, hh, b, s, hs => by
    simp only [okPs, Bool.and_eq_true, Nat.beq_eq] at hh
    obtain ⟨⟨⟨⟨rfl, _⟩, _⟩, _⟩, h4⟩ := hh
    simp only [lkS] at hs
    split at hs
    · rename_i e; subst e; exact ⟨x', by simp⟩
    · obtain ⟨x, hx⟩ := lkS_mem h4 hs
      exact ⟨x, by simp [hx]⟩
def RO (m : Nat) (L : HL) (h : Heap) : Prop := ∀ b, b < m → (∀ p ∈ L, p.1 ≠ b) → h.get b = none
theorem RO.zero {L : HL} : RO 0 L h := fun b hb => absurd hb (Nat.not_lt_zero _)
theorem RO.e {L : HL} : RO m L .e := fun b _ _ => get_e
theorem RO.set {L : HL} {k : Nat} {x : Blk} (hk : (Nat.blt k 1099511627775 && (Nat.ble m k || L.any fun p => Nat.beq p.1 k)) = true) (hr : RO m L h) : RO m L (h.set k x) := fun b hb hn => by
  simp only [Bool.and_eq_true, Bool.or_eq_true, Nat.blt_eq, Nat.ble_eq, List.any_eq_true, Nat.beq_eq] at hk
  obtain ⟨h1, h2⟩ := hk
  have : b ≠ k := by
    rintro rfl
    rcases h2 with h2 | ⟨p, hp, h2⟩
    · omega
    · exact hn p hp h2
  rw [get_ne h1 this]; exact hr b hb hn
def Rec (m : Nat) (T' : Tmps) (L : HL) (T : Tmps) (h : Heap) : Prop := ∃ ps, okPs m ps L = true ∧ RO m L h ∧ RB m (ow m ps) h L ∧ RT m (ow m ps) h T' T
theorem ow_ge {ps : List (Nat × Src)} {b : Nat} (hb : m ≤ b) : ow m ps b = lkS ps b := if_neg (by omega)
theorem Rec.maps {ps : List (Nat × Src)} {L : HL} (ho : okPs m ps L = true) (hb : RB m (ow m ps) h L) : Maps m (ow m ps) h := by
  refine ⟨fun b' b g hm hs => ?_, fun b1 b2 b g g2 m1 m2 h1 h2 => okPs_inj ho m1 m2 (by rw [← ow_ge m1]; exact h1) (by rw [← ow_ge m2]; exact h2)⟩
  rw [ow_ge hm] at hs
  refine ⟨?_, okPs_src ho hm hs⟩
  obtain ⟨x, hx⟩ := lkS_mem ho hs
  rcases hb.mem hx with ⟨q0, _⟩ | ⟨_, q1, q2, q3⟩
  · omega
  rw [ow_ge hm, hs] at q3
  cases x with
  | cells g' cs => obtain ⟨ds, _, k1, _⟩ := q3; exact ⟨_, k1, rfl, fun k => by simp⟩
  | map g' es => obtain ⟨ds, k1, _⟩ := q3; exact ⟨_, k1, rfl, fun k => by simp⟩
  | loop g' N T ps asg body st => obtain ⟨T0, k1, _⟩ := q3; exact ⟨_, k1, rfl, fun k => by simp⟩
  | dead g' => exact absurd rfl (q2 g')
theorem Rec.heap {ps : List (Nat × Src)} {L : HL} (ho : okPs m ps L = true) (hb : RB m (ow m ps) h L) : RH m (ow m ps) h (hp L) := fun b' x' hx => hb.mem (hp_get ho hx)
theorem hp_mem : ∀ {L : HL} {ps : List (Nat × Src)}, okPs m ps L = true → ∀ {b : Nat}, (hp L).get b = none → ∀ p ∈ L, p.1 ≠ b
  | [], _, _, _, _, p, hp => by cases hp
  | (b', x') :: L, [], hh, _, _, _, _ => by simp [okPs] at hh
  | (b', x') :: L, (k, s) :: ps, hh, b, hx, p, hpm => by
    simp only [okPs, Bool.and_eq_true, Nat.blt_eq, Nat.beq_eq] at hh
    obtain ⟨⟨⟨⟨rfl, h3⟩, _⟩, _⟩, h4⟩ := hh
    simp only [hp] at hx
    by_cases e : b = k
    · subst e; rw [get_same h3] at hx; cases hx
    · rw [get_ne h3 e] at hx
      rcases List.mem_cons.1 hpm with rfl | hpm
      · exact fun e2 => e e2.symm
      · exact hp_mem h4 hx p hpm
theorem Rec.dom {ps : List (Nat × Src)} {L : HL} (ho : okPs m ps L = true) (hr : RO m L h) : RD m (ow m ps) h (hp L) := fun b' hx =>
  ⟨fun hlt => hr b' hlt (hp_mem ho hx), fun hge => by rw [ow_ge hge]; exact hp_none ho hx⟩
theorem W2.post {sc : SCode} {k : Nat} {Q : SX → St → Prop} {A : St} (hw : W2 P ⟨k, m⟩ sc (fun e B => Q e B ∨ ∃ T' L, Rec m T' L B.T B.h ∧ Q e ⟨T', hp L⟩) A) : W2 P ⟨k, m⟩ sc Q A := by
  intro code hok c a w S ro hro Q' hQ
  refine hw code hok c a w S ro hro Q' ?_
  rintro e B c' a' w' (hq | ⟨T', L, ⟨ps, ho, hro, hb, ht⟩, hq⟩) S' E'
  · exact hQ e B c' a' w' hq S' E'
  · have M := Rec.maps ho hb
    exact hQ e ⟨T', hp L⟩ (nctx m (ow m ps) B.h c') a' w' hq ⟨(Rec.heap ho hb).hrel (Rec.dom ho hro) M S'.heap, fun i => ht i _ c' w' _ S'.heap M (S'.tmps i), S'.size, S'.defers.mono2 (nctx_evo (m := m) (π := ow m ps) (h := B.h) c' w')⟩ (E'.trans (nctx_evo c' w'))
theorem RT.nil {T : Tmps} : RT m π h [] T := fun _ => Rn.any
theorem RB.nil : RB m π h [] := trivial
theorem RB.cells {b b' g : Nat} {cs ds : List AV} {r : HL} (hm : Nat.ble m b' = true) (hp : π b' = some (.blk b g)) (hg : h.get b = some (.cells g ds)) (hc : RnL m π h cs ds) (hr : RB m π h r) : RB m π h ((b', .cells 0 cs) :: r) :=
  ⟨.inr ⟨Nat.le_of_ble_eq_true hm, rfl, fun _ => by simp, by rw [hp]; exact ⟨ds, ds.length, hg, by rw [List.take_length]; exact hc⟩⟩, hr⟩
theorem RB.pre {b b' g : Nat} {cs ds : List AV} {r : HL} (k : Nat) (hm : Nat.ble m b' = true) (hp : π b' = some (.blk b g)) (hg : h.get b = some (.cells g ds)) (hc : RnL m π h cs (ds.take k)) (hr : RB m π h r) : RB m π h ((b', .cells 0 cs) :: r) :=
  ⟨.inr ⟨Nat.le_of_ble_eq_true hm, rfl, fun _ => by simp, by rw [hp]; exact ⟨ds, k, hg, hc⟩⟩, hr⟩
theorem RB.map {b b' g : Nat} {es fs : List (AV × AV)} {r : HL} (hm : Nat.ble m b' = true) (hp : π b' = some (.blk b g)) (hg : h.get b = some (.map g fs)) (hc : RnM m π h es fs) (hr : RB m π h r) : RB m π h ((b', .map 0 es) :: r) :=
  ⟨.inr ⟨Nat.le_of_ble_eq_true hm, rfl, fun _ => by simp, by rw [hp]; exact ⟨fs, hg, hc⟩⟩, hr⟩
theorem RnL.nil {m : Nat} {π : Nat → Option Src} {h : Heap} : RnL m π h [] [] := trivial
end
section
variable {m : Nat} {π : Nat → Option Src} {h : Heap}
end
section
variable {k m n : Nat} {T : Tmps} {h : Heap} {Q : QC} {fs : List Fr} {α : Type} {env : α → Tmps} {H : α → HL} {I : α → Prop} {μ : α → Nat} {a : α}
section
variable {β : Type} {i : Nat} {T1 : β → Tmps} {L1 : β → HL} {J : β → Prop}
end
end
section
variable {N : NM} {n : Nat} {d : Option Nat} {af dead : List Nat} {r : List SOper} {T : Tmps} {h : Heap} {Q : QC} {fs : List Fr}
end
end Go.AM
set_option linter.unusedVariables false
namespace Go.AM
theorem words : type_of% @wS_skip ∧ type_of% @wS_ret ∧ type_of% @wS_exit ∧ type_of% @wS_region ∧ type_of% @wS_seq ∧ type_of% @wS_cond ∧ type_of% @wS_block ∧ type_of% @wC_true ∧ type_of% @wC_false ∧ type_of% @wC_bool ∧ type_of% @wX_nil ∧ type_of% @wX_sq ∧ type_of% @wX_sq_ret ∧ type_of% @wX_sq_exit ∧ type_of% @wX_blk ∧ type_of% @wX_blk_ret ∧ type_of% @wX_blk_exit ∧ type_of% @loopQ_normal ∧ type_of% @loopQ_exit ∧ type_of% @loopQ_ret ∧ type_of% @ev_t ∧ type_of% @ev_c ∧ type_of% @ev_f ∧ type_of% @lk_nil ∧ type_of% @lk_cons ∧ type_of% @up_cons ∧ type_of% @up_nil ∧ type_of% @rm_nil ∧ type_of% @rm_no ∧ type_of% @rm_cons ∧ type_of% @putD_some ∧ type_of% @putD_none ∧ type_of% @argT_nil ∧ type_of% @argT_cons ∧ type_of% @evs_nil ∧ type_of% @evs_cons ∧ type_of% @evo_none ∧ type_of% @evo_some ∧ type_of% @evParts_nil ∧ type_of% @evParts_cons ∧ type_of% @wR_nil ∧ type_of% @wR_guard ∧ type_of% @wG_bool ∧ type_of% @wG_skip ∧ type_of% @wR_mov ∧ type_of% @wR_mkfn ∧ type_of% @wR_pick ∧ type_of% @wR_build ∧ type_of% @wR_nilchk ∧ type_of% @wR_bin ∧ type_of% @wR_eq ∧ type_of% @wR_un ∧ type_of% @wR_conv ∧ type_of% @wR_convS ∧ type_of% @wR_slice ∧ type_of% @wR_faddr ∧ type_of% @wR_field ∧ type_of% @wR_iaddr ∧ type_of% @wR_index ∧ type_of% @wR_extract ∧ type_of% @wR_maxmin ∧ type_of% @wR_alloc ∧ type_of% @wR_box ∧ type_of% @wR_bslice ∧ type_of% @wR_load ∧ type_of% @wR_store ∧ type_of% @wR_mkmap ∧ type_of% @wR_mkslice ∧ type_of% @wR_lookup ∧ type_of% @wR_mupd ∧ type_of% @wR_len ∧ type_of% @wR_append ∧ type_of% @wR_copy ∧ type_of% @wR_call ∧ type_of% @wO_some ∧ type_of% @wO_pos ∧ type_of% @wO_neg ∧ type_of% @wM_ret ∧ type_of% @wB_some ∧ type_of% @aLoad_ptr ∧ type_of% @aLoad_fptr1 ∧ type_of% @aLoad_fptrN ∧ type_of% @aStore_ptr ∧ type_of% @aLenC_str ∧ type_of% @aLenC_sl ∧ type_of% @aLenC_fsl ∧ type_of% @aLenC_nilsl ∧ type_of% @aLenC_esl ∧ type_of% @ldB_some1 ∧ type_of% @ldB_someN ∧ type_of% @stB_some ∧ type_of% @aBin_add ∧ type_of% @aBin_sub ∧ type_of% @aBin_mul ∧ type_of% @aBin_quo ∧ type_of% @aBin_rem ∧ type_of% @aBin_eql ∧ type_of% @aBin_neq ∧ type_of% @aBin_lss ∧ type_of% @aBin_leq ∧ type_of% @aBin_gtr ∧ type_of% @aBin_geq ∧ type_of% @aUn_not ∧ type_of% @aUn_neg ∧ type_of% @aConv_int ∧ type_of% @aPick_true ∧ type_of% @aPick_false ∧ type_of% @aPick_bool ∧ type_of% @aExtract_tup ∧ type_of% @get_zero ∧ type_of% @get_succ ∧ type_of% @wr_i64 ∧ type_of% @wr_u8 ∧ type_of% @wr_u16 ∧ type_of% @wr_u32 ∧ type_of% @wr_u64 ∧ type_of% @wr_i32 ∧ type_of% @aIAddr_fsl ∧ type_of% @aIAddr_sl ∧ type_of% @aIAddr_ptr ∧ type_of% @aIAddr_fptr ∧ type_of% @aFAddr_ptr ∧ type_of% @aFAddr_fptr ∧ type_of% @aField_none ∧ type_of% @aField_some ∧ type_of% @List.elem_cons.{0} ∧ type_of% @List.elem_nil.{0} ∧ type_of% @Bool.false_eq_true ∧ type_of% @Bool.true_eq_false ∧ type_of% @List.getElem?_cons_zero.{0} ∧ type_of% @List.getElem?_cons_succ.{0} ∧ type_of% @decide_eq_true_eq ∧ type_of% @decide_eq_false_iff_not ∧ type_of% @decide_true ∧ type_of% @decide_false ∧ type_of% @Bool.not_true ∧ type_of% @Bool.not_false ∧ type_of% @Bool.not_eq_true' ∧ type_of% @Bool.not_eq_eq_eq_not ∧ type_of% @List.nil_append.{0} ∧ type_of% @List.append_nil.{0} ∧ type_of% @List.cons_append.{0} ∧ type_of% @and_true ∧ type_of% @true_and ∧ type_of% @Int.natCast_nonneg ∧ type_of% @Int.toNat_natCast ∧ type_of% @Nat.mul_one ∧ type_of% @Nat.zero_add ∧ type_of% @Int.toNat_zero ∧ type_of% @unQ_normal ∧ type_of% @unQ_exit ∧ type_of% @unQ_ret ∧ type_of% @aIndex_arr :=
  ⟨@wS_skip, @wS_ret, @wS_exit, @wS_region, @wS_seq, @wS_cond, @wS_block, @wC_true, @wC_false, @wC_bool, @wX_nil, @wX_sq, @wX_sq_ret, @wX_sq_exit, @wX_blk, @wX_blk_ret, @wX_blk_exit, @loopQ_normal, @loopQ_exit, @loopQ_ret, @ev_t, @ev_c, @ev_f, @lk_nil, @lk_cons, @up_cons, @up_nil, @rm_nil, @rm_no, @rm_cons, @putD_some, @putD_none, @argT_nil, @argT_cons, @evs_nil, @evs_cons, @evo_none, @evo_some, @evParts_nil, @evParts_cons, @wR_nil, @wR_guard, @wG_bool, @wG_skip, @wR_mov, @wR_mkfn, @wR_pick, @wR_build, @wR_nilchk, @wR_bin, @wR_eq, @wR_un, @wR_conv, @wR_convS, @wR_slice, @wR_faddr, @wR_field, @wR_iaddr, @wR_index, @wR_extract, @wR_maxmin, @wR_alloc, @wR_box, @wR_bslice, @wR_load, @wR_store, @wR_mkmap, @wR_mkslice, @wR_lookup, @wR_mupd, @wR_len, @wR_append, @wR_copy, @wR_call, @wO_some, @wO_pos, @wO_neg, @wM_ret, @wB_some, @aLoad_ptr, @aLoad_fptr1, @aLoad_fptrN, @aStore_ptr, @aLenC_str, @aLenC_sl, @aLenC_fsl, @aLenC_nilsl, @aLenC_esl, @ldB_some1, @ldB_someN, @stB_some, @aBin_add, @aBin_sub, @aBin_mul, @aBin_quo, @aBin_rem, @aBin_eql, @aBin_neq, @aBin_lss, @aBin_leq, @aBin_gtr, @aBin_geq, @aUn_not, @aUn_neg, @aConv_int, @aPick_true, @aPick_false, @aPick_bool, @aExtract_tup, @get_zero, @get_succ, @wr_i64, @wr_u8, @wr_u16, @wr_u32, @wr_u64, @wr_i32, @aIAddr_fsl, @aIAddr_sl, @aIAddr_ptr, @aIAddr_fptr, @aFAddr_ptr, @aFAddr_fptr, @aField_none, @aField_some, @List.elem_cons.{0}, @List.elem_nil.{0}, @Bool.false_eq_true, @Bool.true_eq_false, @List.getElem?_cons_zero.{0}, @List.getElem?_cons_succ.{0}, @decide_eq_true_eq, @decide_eq_false_iff_not, @decide_true, @decide_false, @Bool.not_true, @Bool.not_false, @Bool.not_eq_true', @Bool.not_eq_eq_eq_not, @List.nil_append.{0}, @List.append_nil.{0}, @List.cons_append.{0}, @and_true, @true_and, @Int.natCast_nonneg, @Int.toNat_natCast, @Nat.mul_one, @Nat.zero_add, @Int.toNat_zero, @unQ_normal, @unQ_exit, @unQ_ret, @aIndex_arr⟩
end Go.AM
namespace Go.AM.JS
open Go.Proofs
set_option maxRecDepth 100000
set_option linter.unusedSimpArgs false
def least (r : Nat) : Int := match r with | 0 => 1 | _ => 2
def room (r : Nat) : Int := match r with | 0 => 8 | 1 => 5 | 2 => 3 | 3 => 7 | _ => 5
def most (r : Nat) : Int := match r with | 0 => 8 | 1 => 6 | 2 => 4 | 3 => 8 | _ => 6
def isSizes (r : Nat) : AV → Bool
  | .tup [.int .i64 x, .int .i64 y] => decide (x = least r) && decide (y = most r)
  | _ => false
theorem isSizes_of (r : Nat) : ∀ u, isSizes r u = true → u = .tup [.int .i64 (least r), .int .i64 (most r)] := by
  intro u h
  unfold isSizes at h
  split at h
  · simp only [Bool.and_eq_true, decide_eq_true_eq] at h
    rw [h.1, h.2]
  · cases h
theorem sizes (r : Nat) (hr : r < 5) : PSpec Tryz.prog 33 [.int .i64 (1 + Int.ofNat r)] (.tup [.int .i64 (least r), .int .i64 (most r)]) := by
  have h : r = 0 ∨ r = 1 ∨ r = 2 ∨ r = 3 ∨ r = 4 := by omega
  rcases h with rfl | rfl | rfl | rfl | rfl
  all_goals exact pspec_of_run (fns := ft.get) (FT.ok ft_ok) (d := 1000) (isSizes _) (isSizes_of _) (by kernel_rfl)
theorem pick (a b : Nat) (h : a < 256) (hb : b < 256) : PSpec Tryz.prog 10 [.int .u8 (Int.ofNat a), .int .u8 (Int.ofNat b)] (.tup [.int .i64 (1 + Int.ofNat (a % 5)), .int .i64 (least (a % 5) + Int.ofNat b % room (a % 5))]) := by
  have h5 : a % 5 < 5 := Nat.mod_lt _ (by decide)
  generalize hr : a % 5 = r at *
  have e5 : (Int.ofNat a).tmod 5 = Int.ofNat r := by
    show (Int.ofNat a).tmod (Int.ofNat 5) = _
    simp [Int.tmod, ← hr]
  have hm : most r - least r + 1 = room r ∧ 1 ≤ room r ∧ room r ≤ 8 ∧ most r - least r ≤ 7 ∧ 0 ≤ most r - least r ∧ 1 ≤ least r ∧ least r ≤ 2 := by
    have h : r = 0 ∨ r = 1 ∨ r = 2 ∨ r = 3 ∨ r = 4 := by omega
    rcases h with rfl | rfl | rfl | rfl | rfl <;> decide
  have hmod : 0 ≤ Int.ofNat b % room r ∧ Int.ofNat b % room r < room r := ⟨Int.emod_nonneg _ (by omega), Int.emod_lt_of_pos _ (by omega)⟩
  have hz := sizes r h5
  have hb' : (Int.ofNat b : Int) < 256 := by simp; omega
  have hb0 : (0 : Int) ≤ Int.ofNat b := by simp
  have hr' : (Int.ofNat r : Int) < 5 := by simp; omega
  have hr0 : (0 : Int) ≤ Int.ofNat r := by simp
  generalize Int.ofNat b = B at *
  generalize Int.ofNat r = R at *
  refine PSpec.of_wS 6 64 ok10 rfl rfl rfl ?_
  simp (maxSteps := 1000000) (disch := omega) only [s10, e5, words, Nat.reduceAdd, Nat.reduceEqDiff, Nat.reduceBEq, ↓reduceIte, reduceCtorEq, SX.exit.injEq, if_true, if_false, Int.reduceAdd, Int.reduceSub, Int.reduceMul, Int.reduceLT, Int.reduceLE, Int.reduceEq, Int.reduceNe, Int.reduceNeg, Int.reduceToNat, Nat.reduceMul, Nat.reduceLT, Nat.reduceSub, Nat.reduceLeDiff]
  refine call_pure hz ?_
  simp (maxSteps := 1000000) (disch := omega) only [Int.tmod_eq_emod_of_nonneg, hm.1, words, Nat.reduceAdd, Nat.reduceEqDiff, Nat.reduceBEq, ↓reduceIte, reduceCtorEq, SX.exit.injEq, if_true, if_false, Int.reduceAdd, Int.reduceSub, Int.reduceMul, Int.reduceLT, Int.reduceLE, Int.reduceEq, Int.reduceNe, Int.reduceNeg, Int.reduceToNat, Nat.reduceMul, Nat.reduceLT, Nat.reduceSub, Nat.reduceLeDiff]
  exact ⟨by simp, _, rfl, _, rfl⟩
def pairs : List (Int × Int) := [(1, 1), (1, 2), (1, 3), (1, 4), (1, 5), (1, 6), (1, 7), (1, 8), (2, 2), (2, 3), (2, 4), (2, 5), (2, 6), (3, 2), (3, 3), (3, 4), (4, 2), (4, 3), (4, 4), (4, 5), (4, 6), (4, 7), (4, 8), (5, 2), (5, 3), (5, 4), (5, 5), (5, 6)]
theorem mem_pairs (r : Nat) (hr : r < 5) (B : Int) (hB : 0 ≤ B) : (1 + Int.ofNat r, least r + B % room r) ∈ pairs := by
  have h : r = 0 ∨ r = 1 ∨ r = 2 ∨ r = 3 ∨ r = 4 := by omega
  rcases h with rfl | rfl | rfl | rfl | rfl
  all_goals
    simp only [least, room, pairs, List.mem_cons, Prod.mk.injEq, List.not_mem_nil, or_false]
    simp
    omega
theorem u8_nat : ∀ x : Int, (Lit.int .u8 x).wf = true → ∃ y : Nat, y < 256 ∧ x = Int.ofNat y := by
  intro x hx
  have h1 : 0 ≤ x ∧ x ≤ 255 := by
    simp [Lit.wf] at hx
    revert hx
    simp [IntKind.min, IntKind.max, IntKind.signed, IntKind.bits]
  exact ⟨x.toNat, by omega, by simp; omega⟩
end Go.AM.JS
set_option linter.unusedSimpArgs false
set_option linter.unusedVariables false
namespace Go.AM
variable {P : Program}
def FSpec (P : Program) (f : Nat) (args : List AV) (v : AV) : Prop :=
  Callable P f ∧ noRefs args = true ∧ noRef v = true ∧ ∀ (F : Nat → Prop) (w : World) (cargs : Array Value), (∀ k, F k → k < w.heap.size) → VRels (only (ok := okc P) F) w args cargs.toList →
    Calls P f cargs w fun e w' => ∃ cv F', e = .returned cv ∧ Evo2 0 (only (ok := okc P) F) w (only (ok := okc P) fun k => F k ∨ F' k) w' ∧ (∀ k, F' k → w.heap.size ≤ k ∧ k < w'.heap.size) ∧ VRel (only (ok := okc P) F') w' v cv
def RnO (h : Heap) (x y : AV) : Prop := ∀ (ok : Okc) (c : Ctx ok) (w : World) (v : Value), HRel c h w → VRel c w y v → VRel (only (ok := ok) c.O) w x v
def RnOL (h : Heap) : List AV → List AV → Prop
  | [], [] => True
  | x :: xs, y :: ys => RnO h x y ∧ RnOL h xs ys
  | _, _ => False
section
variable {h : Heap}
theorem RnO.flat {x : AV} (hf : flatV x = true) : RnO h x x := fun _ c w v _ hv => VRel.flat _ _ hf hv
theorem RnOL.nil : RnOL h [] [] := trivial
theorem RnOL.rels {ok : Okc} {c : Ctx ok} {w : World} (H : HRel c h w) : ∀ {xs ys : List AV} {vs : List Value}, RnOL h xs ys → VRels c w ys vs → VRels (only (ok := ok) c.O) w xs vs
  | [], [], _, _, hv => by simpa [VRels] using hv
  | [], _ :: _, _, hh, _ => hh.elim
  | _ :: _, [], _, hh, _ => hh.elim
  | x :: xs, y :: ys, vs, hh, hv => by
    simp only [VRels] at hv ⊢
    obtain ⟨v, vs', rfl, g1, g2⟩ := hv
    exact ⟨v, vs', rfl, hh.1 _ c w v H g1, RnOL.rels H hh.2 g2⟩
theorem RnO.tup {xs ys : List AV} (hL : RnOL h xs ys) : RnO h (.tup xs) (.tup ys) := fun _ c w v H hv => by
  simp only [VRel] at hv ⊢
  obtain ⟨vs, rfl, hv⟩ := hv
  exact ⟨vs, rfl, hL.rels H hv⟩
theorem VPre.flat {ok : Okc} {c c' : Ctx ok} {w w' : World} : ∀ {xs : List AV} {vs : List Value}, flatVs xs = true → VPre c w xs vs → VPre c' w' xs vs
  | [], _, _, _ => by simp [VPre]
  | x :: xs, vs, hf, hv => by
    simp only [flatVs, Bool.and_eq_true] at hf
    simp only [VPre] at hv ⊢
    obtain ⟨v, vs', rfl, g1, g2⟩ := hv
    exact ⟨v, vs', rfl, VRel.flat _ _ hf.1 g1, VPre.flat hf.2 g2⟩
theorem RnO.sl {b g len sz : Nat} {ds : List AV} (hb : h.get b = some (.cells g ds)) (hf : flatVs ds = true) (hl : ds.length = len * sz) : RnO h (.fsl ds len sz) (.sl b g 0 len sz) := fun _ c w v H hv => by
  simp only [VRel] at hv
  rcases hv with ⟨hp, rfl, _, rfl⟩ | ⟨cb, base, o, cap, C, e, fr, hp, rfl, hlc, hC, hcap⟩
  · have : ds = [] := List.eq_nil_of_length_eq_zero (by rw [hl]; simp)
    subst this
    simp only [VRel]; exact .inl (by simp)
  · obtain ⟨C', e', fr', hO, hC', hfr, hbs, hpre⟩ := H.here hb hp
    rw [hC] at hC'; cases hC'
    by_cases h0 : cap = 0
    · have hl0 : len = 0 := by omega
      subst hl0
      have : ds = [] := List.eq_nil_of_length_eq_zero (by rw [hl]; simp)
      subst this
      simp only [VRel]
      exact .inr ⟨cb, o, cap, C, e, fr, rfl, hlc, by simp, hO, hC, by simp [VPre]⟩
    · obtain ⟨ho, hbd⟩ := hcap.resolve_left h0
      simp only [VRel]
      exact .inr ⟨cb, o, cap, C, e, fr, rfl, hlc, hl, hO, hC, by rw [ho]; exact VPre.flat hf hpre⟩
end
theorem FSpec.of_W2 {f : Nat} {sf : SFn} {args : List AV} {v : AV} (hok : okFn P f sf = true) (hl : args.length ≤ sf.n) (ha : noRefs args = true) (hv : noRef v = true)
    (hw : W2 P ⟨sf.n, 0⟩ sf.body (fun e B => (e = .normal ∨ e = .ret) ∧ ∃ vs, resV B.T B.h sf.res = some vs ∧ RnO B.h v (resOf vs)) ⟨argT 0 args, .e⟩) : FSpec P f args v := by
  obtain ⟨_, _, _, _, _, _, _, hc⟩ := okFn_spec hok
  refine ⟨hc, ha, hv, fun F w cargs hF ha => (call_of_W2 (R := fun vs k => RnO k v (resOf vs)) hok hl hw (HRel.only hF) ha).mono ?_⟩
  rintro e w' ⟨cv, c', vs, k, rfl, E, H', V, hk⟩
  have hnew : ∀ k, c'.O k → w.heap.size ≤ k := fun k hO => (E.own k hO).elim (fun h => h.elim) id
  refine ⟨cv, c'.O, rfl, ?_, fun k hO => ⟨hnew k hO, H'.inO k hO⟩, hk _ c' w' cv H' V⟩
  refine ⟨E.os, E.tape, E.output, E.size, E.shape, fun k hk _ => E.keep k hk (fun h => h), fun b g p hb => absurd hb (Nat.not_lt_zero _), fun k hk => .inl hk, fun k hk => ?_, fun k hk => hk.elim, rfl⟩
  rcases hk with hk | hk
  · exact .inl hk
  · exact .inr (.inr (hnew k hk))
theorem FSpec.of_wS {f : Nat} {sf : SFn} {args : List AV} {v : AV} (n : Nat) (hok : okFn P f sf = true) (hl : Nat.ble args.length sf.n = true) (ha : noRefs args = true) (hv : noRef v = true)
    (hw : wS P ⟨sf.n, 0⟩ sf.body [] n (argT 0 args) .e fun e T h _ => (e = .normal ∨ e = .ret) ∧ ∃ vs, resV T h sf.res = some vs ∧ RnO h v (resOf vs)) : FSpec P f args v :=
  FSpec.of_W2 hok (Nat.le_of_ble_eq_true hl) ha hv ((wpC.toW hw).mono fun e B ⟨_, h⟩ => h)
section
variable {h : Heap}
theorem FrzTo.fn {f : Nat} {xs ys us vs : List AV} (hL : FrzL h xs ys) (hK : FrzL h us vs) : FrzTo h (.fn f xs us) (.fn f ys vs) := fun _ c w v H hv => by
  simp only [VRel] at hv ⊢
  obtain ⟨x', y', rfl, h1, h2⟩ := hv
  exact ⟨x', y', rfl, hL.rels H h1, hK.rels H h2⟩
theorem FrzTo.ptr {b g off : Nat} {cs ys : List AV} (hb : h.get b = some (.cells g cs)) (hL : FrzL h (cs.drop off) ys) : FrzTo h (.ptr b g off) (.fptr ys) := fun _ c w v H hv => by
  simp only [VRel] at hv
  obtain ⟨cb, base, hp, rfl⟩ := hv
  obtain ⟨C', e', fr', hO, hC', hfr, hbs, hpre⟩ := H.here hb hp
  have hp2 := VPre_drop off hpre
  rw [List.drop_drop] at hp2
  simp only [VRel]
  exact ⟨cb, base + off, C', e', fr', rfl, .inr hO, hC', hL.pre H hp2⟩
theorem FrzTo.map {b g : Nat} {es : List (AV × AV)} {ks vs : List AV} (hb : h.get b = some (.map g es)) (hk : FrzL h (es.map (·.1)) ks) (hv : FrzL h (es.map (·.2)) vs) : FrzTo h (.map b g) (.fmap ks vs) := fun _ c w v H hx => by
  simp only [VRel] at hx
  obtain ⟨cb, hp, rfl⟩ := hx
  obtain ⟨ms, clock, hO, hC, hR, hcl⟩ := H.atMap hb hp
  obtain ⟨g1, g2, g3⟩ := MRel_to hR
  have hl := MRel_length hR
  simp only [VRel]
  exact ⟨cb, ms, clock, rfl, .inr hO, hC, by simp at hl; omega, g1, hk.rels H g2, hv.rels H g3⟩
end
end Go.AM
set_option linter.unusedSimpArgs false
set_option linter.unusedVariables false
namespace Go.AM
variable {P : Program}
theorem W.weak1 {N : Nat} {c : SCode} {Q : SX → St → Prop} {T L : Tmps} {h : Heap} (hT : Sub L T) (hw : W P N c Q ⟨L, h⟩) : W P N c Q ⟨T, h⟩ := by
  intro code hok ctx a w S ro hro Q' hQ
  refine hw code hok ctx a w ⟨S.heap, fun i => ?_, S.size, S.defers⟩ ro hro Q' hQ
  rcases hT i with e | e
  · show VRel ctx w (lk L i) _
    rw [e]; simp [VRel]
  · show VRel ctx w (lk L i) _
    rw [e]; exact S.tmps i
section
variable {N : NM} {n : Nat} {T L : Tmps} {h : Heap} {Q : QC} {fs : List Fr} {b2 : Nat} {G : Prop}
theorem Rec.sub {m : Nat} {T1 T Lx : Tmps} {L : HL} {h : Heap} (hr : Rec m T1 L Lx h) (hS : Sub Lx T) : Rec m T1 L T h := by
  obtain ⟨ps, h1, h2, h3, h4⟩ := hr
  refine ⟨ps, h1, h2, h3, fun i => ?_⟩
  rcases hS i with e | e
  · intro _ c w v H M _
    exact h4 i _ c w v H M (by rw [e]; simp [VRel])
  · rw [← e]; exact h4 i
end
end Go.AM
namespace Go.AM.JA
open Go.Proofs
set_option maxRecDepth 100000
set_option linter.unusedSimpArgs false
set_option linter.unusedVariables false
noncomputable section
def isTrue : AV → Bool | .bool true => true | _ => false
theorem isTrue_of : ∀ u, isTrue u = true → u = .bool true := by
  intro u h
  unfold isTrue at h
  split at h
  · rfl
  · cases h
def kTrue (t : Nat) : KcA Bool := fun e T _ _ => match e with
  | .ret => isTrue (lk T t)
  | _ => false
theorem kTrue_of {t : Nat} {e : SX} {T : Tmps} {h : Heap} {n : Nat} (hk : kTrue t e T h n = true) : e = .ret ∧ lk T t = .bool true := by
  unfold kTrue at hk
  cases e <;> simp only [Bool.false_eq_true] at hk
  exact ⟨rfl, isTrue_of _ hk⟩
def rest : FCode → FCode
  | .seq _ b => b
  | c => c
def hd : FCode → FCode
  | .seq a _ => a
  | c => c
theorem known : PSpec Tryz.prog 9 [] (.bool true) :=
  pspec_of_runR (t := ft) ft_ok noOrc_ok (d := 100000) isTrue isTrue_of (by kernel_rfl)
def orc2 (f : Nat) (v : AV) (g : Nat) (xs : List AV) (u : AV) : Orc := fun k => ifB (Nat.beq k f) (some ([], v)) (ifB (Nat.beq k g) (some (xs, u)) none)
theorem orc2_ok {f g : Nat} {v u : AV} {xs : List AV} (h : PSpec Tryz.prog f [] v) (h2 : PSpec Tryz.prog g xs u) : OrcOK Tryz.prog (orc2 f v g xs u) := by
  intro k bs w hk
  unfold orc2 at hk
  rw [ifB_eq, ifB_eq] at hk
  split at hk
  · rename_i e
    have : k = f := by simpa using e
    subst this
    cases hk; exact h
  · split at hk
    · rename_i e
      have : k = g := by simpa using e
      subst this
      cases hk; exact h2
    · cases hk
def c1 : FCode := hd f3.body
def c2 : FCode := hd (rest f3.body)
def c3 : FCode := hd (rest (rest f3.body))
def cT : FCode := rest (rest (rest f3.body))
theorem cells_is : f3.body = .seq c1 (.seq c2 (.seq c3 cT)) := by kernel_rfl
def cOrc (a b k n : Int) : Orc := orc2 9 (.bool true) 10 [.int .u8 a, .int .u8 b] (.tup [.int .i64 k, .int .i64 n])
def G3 (k n : Int) (T : Tmps) (h : Heap) (m : Nat) : Prop := lk T 5 = .int .i64 k ∧ lk T 6 = .int .i64 n ∧ h = .e
def G2 (a b k n : Int) (T : Tmps) (h : Heap) (m : Nat) : Prop := exR ansP (cOrc a b k n) ft.get 1000 c3 T h m (fun e T h m => e = .normal ∧ G3 k n T h m)
def G1 (a b k n : Int) (T : Tmps) (h : Heap) (m : Nat) : Prop := exR ansP (cOrc a b k n) ft.get 1000 c2 T h m (fun e T h m => e = .normal ∧ G2 a b k n T h m)
theorem front (a b k n : Int) : (SX.normal = SX.normal ∧ (([] : List AV) = [] ∧ (SX.normal = SX.normal ∧ (([.int .u8 a, .int .u8 b] : List AV) = [.int .u8 a, .int .u8 b] ∧ (SX.normal = SX.normal ∧ (AV.int .i64 k = .int .i64 k ∧ AV.int .i64 n = .int .i64 n ∧ (Tr.e : Heap) = .e)))))) =
    exR ansP (cOrc a b k n) ft.get 1000 c1 [(0, .int .u8 a), (1, .int .u8 b)] .e 64 (fun e T h m => e = .normal ∧ G1 a b k n T h m) := by kernel_rfl
def tail (p : Int × Int) : Bool := exR ansB (orc1 9 (.bool true)) ft.get 100000 cT [(5, .int .i64 p.1), (6, .int .i64 p.2)] .e 64 (kTrue 4)
end
end Go.AM.JA
namespace Go.AM.JA
open Go.Proofs
set_option maxRecDepth 100000
theorem tail_1_1 : tail (1, 1) = true := by kernel_rfl
theorem tail_1_2 : tail (1, 2) = true := by kernel_rfl
theorem tail_1_3 : tail (1, 3) = true := by kernel_rfl
theorem tail_1_4 : tail (1, 4) = true := by kernel_rfl
theorem tail_1_5 : tail (1, 5) = true := by kernel_rfl
theorem tail_1_6 : tail (1, 6) = true := by kernel_rfl
theorem tail_1_7 : tail (1, 7) = true := by kernel_rfl
theorem tail_1_8 : tail (1, 8) = true := by kernel_rfl
end Go.AM.JA
namespace Go.AM.JA
open Go.Proofs
set_option maxRecDepth 100000
theorem tail_2_2 : tail (2, 2) = true := by kernel_rfl
theorem tail_2_3 : tail (2, 3) = true := by kernel_rfl
theorem tail_2_4 : tail (2, 4) = true := by kernel_rfl
theorem tail_2_5 : tail (2, 5) = true := by kernel_rfl
theorem tail_2_6 : tail (2, 6) = true := by kernel_rfl
end Go.AM.JA
namespace Go.AM.JA
open Go.Proofs
set_option maxRecDepth 100000
theorem tail_3_2 : tail (3, 2) = true := by kernel_rfl
theorem tail_3_3 : tail (3, 3) = true := by kernel_rfl
theorem tail_3_4 : tail (3, 4) = true := by kernel_rfl
end Go.AM.JA
namespace Go.AM.JA
open Go.Proofs
set_option maxRecDepth 100000
theorem tail_4_2 : tail (4, 2) = true := by kernel_rfl
theorem tail_4_3 : tail (4, 3) = true := by kernel_rfl
theorem tail_4_4 : tail (4, 4) = true := by kernel_rfl
theorem tail_4_5 : tail (4, 5) = true := by kernel_rfl
end Go.AM.JA
namespace Go.AM.JA
open Go.Proofs
set_option maxRecDepth 100000
theorem tail_4_6 : tail (4, 6) = true := by kernel_rfl
theorem tail_4_7 : tail (4, 7) = true := by kernel_rfl
theorem tail_4_8 : tail (4, 8) = true := by kernel_rfl
end Go.AM.JA
namespace Go.AM.JA
open Go.Proofs
set_option maxRecDepth 100000
theorem tail_5_2 : tail (5, 2) = true := by kernel_rfl
theorem tail_5_3 : tail (5, 3) = true := by kernel_rfl
theorem tail_5_4 : tail (5, 4) = true := by kernel_rfl
theorem tail_5_5 : tail (5, 5) = true := by kernel_rfl
theorem tail_5_6 : tail (5, 6) = true := by kernel_rfl
end Go.AM.JA
namespace Go.AM.JA
open Go.Proofs
set_option maxRecDepth 100000
set_option linter.unusedVariables false
noncomputable section
theorem tails : ∀ p ∈ JS.pairs, tail p = true := by
  intro p hp
  simp only [JS.pairs, List.mem_cons, List.not_mem_nil, or_false] at hp
  rcases hp with rfl | rfl | rfl | rfl | rfl | rfl | rfl | rfl | rfl | rfl | rfl | rfl | rfl | rfl | rfl | rfl | rfl | rfl | rfl | rfl | rfl | rfl | rfl | rfl | rfl | rfl | rfl | rfl
  · exact tail_1_1
  · exact tail_1_2
  · exact tail_1_3
  · exact tail_1_4
  · exact tail_1_5
  · exact tail_1_6
  · exact tail_1_7
  · exact tail_1_8
  · exact tail_2_2
  · exact tail_2_3
  · exact tail_2_4
  · exact tail_2_5
  · exact tail_2_6
  · exact tail_3_2
  · exact tail_3_3
  · exact tail_3_4
  · exact tail_4_2
  · exact tail_4_3
  · exact tail_4_4
  · exact tail_4_5
  · exact tail_4_6
  · exact tail_4_7
  · exact tail_4_8
  · exact tail_5_2
  · exact tail_5_3
  · exact tail_5_4
  · exact tail_5_5
  · exact tail_5_6
theorem cells (a b : Int) (wa : (Lit.int .u8 a).wf = true) (wb : (Lit.int .u8 b).wf = true) :
    W Tryz.prog f3.slim.n f3.slim.body (fun e B => (e = .normal ∨ e = .ret) ∧ resV B.T B.h f3.slim.res = some [.bool true]) ⟨argT 0 [.int .u8 a, .int .u8 b], .e⟩ := by
  obtain ⟨a, ha, rfl⟩ := JS.u8_nat a wa
  obtain ⟨b, hb, rfl⟩ := JS.u8_nat b wb
  have hp := JS.pick a b ha hb
  have hm := JS.mem_pairs (a % 5) (Nat.mod_lt _ (by decide)) (Int.ofNat b) (by simp)
  generalize 1 + Int.ofNat (a % 5) = k at *
  generalize JS.least (a % 5) + Int.ofNat b % JS.room (a % 5) = n at *
  have ht := tails _ hm
  show W Tryz.prog f3.n f3.body.slim (fun e B => (e = .normal ∨ e = .ret) ∧ resV B.T B.h [.tmp 4] = some [.bool true]) ⟨[(0, .int .u8 (Int.ofNat a)), (1, .int .u8 (Int.ofNat b))], .e⟩
  rw [cells_is]
  have hx := (front (Int.ofNat a) (Int.ofNat b) k n).mp ⟨rfl, rfl, rfl, rfl, rfl, rfl, rfl, rfl⟩
  have ho : OrcOK Tryz.prog (cOrc (Int.ofNat a) (Int.ofNat b) k n) := orc2_ok known hp
  refine W_seq_exP ft_ok ho hx fun T h m hG => ?_
  refine W_seq_exP ft_ok ho hG fun T h m hG => ?_
  refine W_seq_exP ft_ok ho hG fun T h m hG => ?_
  obtain ⟨g1, g2, rfl⟩ := hG
  refine W.weak1 (L := [(5, .int .i64 k), (6, .int .i64 n)]) ?_ (W_of_exB ft_ok (orc1_ok known) _ ht ?_)
  · intro i
    rw [lk_cons, lk_cons]
    by_cases h5 : 5 = i
    · subst h5; exact .inr g1.symm
    · rw [if_neg h5]
      by_cases h6 : 6 = i
      · subst h6; exact .inr g2.symm
      · rw [if_neg h6]; exact .inl rfl
  · intro e T h n hk
    obtain ⟨rfl, hk2⟩ := kTrue_of hk
    refine ⟨.inr rfl, ?_⟩
    show resV T h [.tmp 4] = _
    rw [show resV T h [.tmp 4] = some [lk T 4] from rfl, hk2]
end
end Go.AM.JA
