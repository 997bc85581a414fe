/- A part of the proof of CataloguePlantsCardSaid: lemmas on the way (AmIpb, AmIp, AmQa, AmQb, AmQc, AmQd, AmQw, AmQe, AmTa). Conditions: none of ours. -/
import Derived.Test.YtnjlnnbepabfcaaGreatDoorProg
import Derived.KernelRfl
import Derived.Test.YtnjlnnbepabfcaaGreatDoorAmZ9
set_option linter.unusedSectionVars false
set_option maxRecDepth 100000
namespace Go.AM.IP
open Go.Proofs
def f218 : FFn := ⟨38, [.tmp 2, .tmp 3],
 (.seq (.region [⟨true, ⟨(some 1), .box .dyn (.t 0), [], none⟩⟩,
   ⟨true, ⟨(some 2), .mov (.c .nilsl), [], none⟩⟩,
   ⟨true, ⟨(some 3), .mov (.c (.int .i64 (.ofNat 0))), [1], none⟩⟩] [] 13)
 (.seq (.seq (.region [⟨true, ⟨(some 8), .load (some 4) (.t 1), [], none⟩⟩,
   ⟨true, ⟨(some 9), .call .heap (.f 67) [(.t 8)], [0], none⟩⟩,
   ⟨true, ⟨(some 4), .mov (.t 9), [1, 1, 0, 1], none⟩⟩] [] 768)
 (.seq (.region [⟨true, ⟨(some 10), .mov (.t 4), [], none⟩⟩,
   ⟨true, ⟨(some 11), .bin .neq (.t 10) (.c (.int .i64 (.ofNat 0))), [0], none⟩⟩] [] 1024)
 (.cond (.t 11)
  (.seq (.region [⟨true, ⟨(some 12), .mov (.t 4), [], none⟩⟩,
    ⟨true, ⟨(some 2), .mov (.c .nilsl), [], none⟩⟩,
    ⟨true, ⟨(some 3), .mov (.t 12), [0, 1, 0, 1], none⟩⟩] [] 6162)
  .ret)
  .skip)))
 (.seq (.region [⟨true, ⟨(some 13), .load (some 4) (.t 1), [], none⟩⟩,
   ⟨true, ⟨(some 14), .call .heap (.f 262) [(.t 13)], [0], none⟩⟩,
   ⟨true, ⟨(some 5), .alloc .dyn (.agg [.nilsl, (.int .i64 (.ofNat 0)), .nilsl, .nilsl, .nilsl]), [], none⟩⟩,
   ⟨false, ⟨none, .store 5 (.t 5) (.t 14), [2, 1, 1, 0, 1, 2], none⟩⟩] [] 26652)
 (.seq (.region [⟨true, ⟨(some 6), .mov (.c .nilsl), [], none⟩⟩] [] 0)
 (.seq (.seq (.region [⟨true, ⟨(some 15), .faddr 1 (.t 1), [], none⟩⟩,
   ⟨true, ⟨(some 16), .load none (.t 15), [0], none⟩⟩,
   ⟨true, ⟨(some 17), .mov (.c (.int .i64 (.ofNat 0))), [], none⟩⟩] [] 32770)
 (.block 0 (.loop (.seq (.region [⟨true, ⟨(some 18), .bin .lss (.t 17) (.t 16), [], none⟩⟩] [] 0)
 (.seq (.cond (.t 18)
  .skip
  (.exit 0))
 (.seq (.block 1 (.seq (.region [⟨true, ⟨(some 19), .mov (.t 17), [], none⟩⟩,
   ⟨true, ⟨(some 7), .mov (.t 19), [0, 0], none⟩⟩] [] 786432)
 (.seq (.region [⟨true, ⟨(some 20), .faddr 4 (.t 5), [], none⟩⟩,
   ⟨true, ⟨(some 21), .load none (.t 20), [0], none⟩⟩,
   ⟨true, ⟨(some 22), .mov (.t 7), [], none⟩⟩,
   ⟨true, ⟨(some 23), .iaddr none 1 (.t 21) (.t 22), [1, 2], none⟩⟩,
   ⟨true, ⟨(some 24), .load none (.t 23), [3], none⟩⟩,
   ⟨true, ⟨(some 25), .faddr 4 (.t 5), [], none⟩⟩,
   ⟨true, ⟨(some 26), .load none (.t 25), [5], none⟩⟩,
   ⟨true, ⟨(some 27), .mov (.t 7), [], none⟩⟩,
   ⟨true, ⟨(some 28), .bin .add (.t 27) (.c (.int .i64 (.ofNat 1))), [7], none⟩⟩,
   ⟨true, ⟨(some 29), .iaddr none 1 (.t 26) (.t 28), [6, 8], none⟩⟩,
   ⟨true, ⟨(some 30), .load none (.t 29), [9], none⟩⟩,
   ⟨true, ⟨(some 31), .bin .eql (.t 24) (.t 30), [4, 10], none⟩⟩] [] 2146435072)
 (.cond (.t 31)
  (.region [⟨true, ⟨(some 32), .mov (.t 6), [], none⟩⟩,
    ⟨true, ⟨(some 33), .mov (.t 7), [], none⟩⟩,
    ⟨true, ⟨(some 34), .bslice false .dyn 1 1 [(.int .i64 (.ofNat 0))] [(0, 1, (.t 33))], [1], none⟩⟩,
    ⟨true, ⟨(some 35), .append .dyn 1 8 (.t 32) (.t 34), [0, 2], none⟩⟩,
    ⟨false, ⟨(some 6), .mov (.t 35), [3, 3, 0, 1, 2, 3], none⟩⟩] [] 66571993216)
  .skip))))
 (.region [⟨true, ⟨(some 36), .bin .add (.t 17) (.c (.int .i64 (.ofNat 1))), [], none⟩⟩,
   ⟨false, ⟨(some 17), .mov (.t 36), [0], none⟩⟩] [] 70866960512)))))))
 (.seq (.region [⟨true, ⟨(some 37), .mov (.t 6), [], none⟩⟩,
   ⟨true, ⟨(some 2), .mov (.t 37), [0, 0], none⟩⟩,
   ⟨true, ⟨(some 3), .mov (.c (.int .i64 (.ofNat 0))), [1, 0, 1], none⟩⟩] [] 137439150176)
 .ret))))))⟩
def f219 : FFn := ⟨65, [.tmp 8, .tmp 9, .tmp 10],
 (.seq (.region [⟨true, ⟨(some 4), .box .dyn (.t 0), [], none⟩⟩,
   ⟨true, ⟨(some 8), .mov (.c .nilsl), [], none⟩⟩,
   ⟨true, ⟨(some 9), .mov (.c (.bool false)), [1], none⟩⟩,
   ⟨true, ⟨(some 10), .mov (.c (.int .i64 (.ofNat 0))), [2], none⟩⟩] [] 1793)
 (.seq (.seq (.region [⟨true, ⟨(some 17), .load (some 4) (.t 4), [], none⟩⟩,
   ⟨true, ⟨(some 18), .call .heap (.f 67) [(.t 17)], [0], none⟩⟩,
   ⟨true, ⟨(some 11), .mov (.t 18), [1, 1, 0, 1], none⟩⟩] [] 393216)
 (.seq (.region [⟨true, ⟨(some 19), .mov (.t 11), [], none⟩⟩,
   ⟨true, ⟨(some 20), .bin .neq (.t 19) (.c (.int .i64 (.ofNat 0))), [0], none⟩⟩] [] 524288)
 (.cond (.t 20)
  (.seq (.region [⟨true, ⟨(some 21), .mov (.t 11), [], none⟩⟩,
    ⟨true, ⟨(some 8), .mov (.c .nilsl), [], none⟩⟩,
    ⟨true, ⟨(some 9), .mov (.c (.bool false)), [1, 1], none⟩⟩,
    ⟨true, ⟨(some 10), .mov (.t 21), [0, 2, 0, 1, 2], none⟩⟩] [] 3147806)
  .ret)
  .skip)))
 (.seq (.seq (.region [⟨true, ⟨(some 22), .mov (.t 1), [], none⟩⟩,
   ⟨true, ⟨(some 23), .bin .lss (.t 22) (.c (.int .i64 (.ofNat 0))), [0], none⟩⟩,
   ⟨true, ⟨(some 24), .mov (.t 23), [1], none⟩⟩,
   ⟨true, ⟨(some 25), .mov (.t 1), [2], (some (24, false))⟩⟩,
   ⟨true, ⟨(some 26), .faddr 1 (.t 4), [2], (some (24, false))⟩⟩,
   ⟨true, ⟨(some 27), .load none (.t 26), [4, 2], (some (24, false))⟩⟩,
   ⟨true, ⟨(some 28), .bin .geq (.t 25) (.t 27), [3, 5, 2], (some (24, false))⟩⟩,
   ⟨true, ⟨(some 29), .pick (.t 24) (.c (.bool true)) (.t 28), [2, 6], none⟩⟩] [] 533729024)
 (.cond (.t 29)
  (.seq (.region [⟨true, ⟨(some 8), .mov (.c .nilsl), [], none⟩⟩,
    ⟨true, ⟨(some 9), .mov (.c (.bool false)), [0, 0], none⟩⟩,
    ⟨true, ⟨(some 10), .mov (.c (.int .i64 (.ofNat 2))), [1, 0, 1], none⟩⟩] [] 536870942)
  .ret)
  .skip))
 (.seq (.seq (.region [⟨true, ⟨(some 30), .mov (.t 2), [], none⟩⟩,
   ⟨true, ⟨(some 31), .mov (.t 3), [], none⟩⟩,
   ⟨true, ⟨(some 32), .build [.nilsl, .nilsl] [(0, 1, (.t 30)), (1, 1, (.t 31))], [0, 1], none⟩⟩,
   ⟨true, ⟨(some 33), .mov (.c (.int .i64 (.ofNat 0))), [], none⟩⟩] [] 3758098176)
 (.block 0 (.loop (.seq (.region [⟨true, ⟨(some 34), .bin .lss (.t 33) (.c (.int .i64 (.ofNat 2))), [], none⟩⟩] [] 0)
 (.seq (.cond (.t 34)
  .skip
  (.exit 0))
 (.seq (.block 1 (.seq (.region [⟨true, ⟨(some 35), .index (some (2, 1, false)) (.t 32) (.t 33), [], none⟩⟩,
   ⟨true, ⟨(some 13), .mov (.t 35), [0, 0], none⟩⟩] [] 51539607552)
 (.seq (.region [⟨true, ⟨(some 36), .load (some 4) (.t 4), [], none⟩⟩,
   ⟨true, ⟨(some 37), .mov (.t 13), [], none⟩⟩,
   ⟨true, ⟨(some 38), .call .heap (.f 263) [(.t 36), (.t 37)], [0, 1], none⟩⟩,
   ⟨true, ⟨(some 14), .mov (.t 38), [2, 2, 0, 1, 2], none⟩⟩] [] 481036345344)
 (.seq (.region [⟨true, ⟨(some 39), .mov (.t 14), [], none⟩⟩,
   ⟨true, ⟨(some 40), .bin .neq (.t 39) (.c (.int .i64 (.ofNat 0))), [0], none⟩⟩] [] 549755813888)
 (.cond (.t 40)
  (.seq (.region [⟨true, ⟨(some 41), .mov (.t 14), [], none⟩⟩,
    ⟨true, ⟨(some 8), .mov (.c .nilsl), [], none⟩⟩,
    ⟨true, ⟨(some 9), .mov (.c (.bool false)), [1, 1], none⟩⟩,
    ⟨true, ⟨(some 10), .mov (.t 41), [0, 2, 0, 1, 2], none⟩⟩] [] 3311419801630)
  .ret)
  .skip)))))
 (.region [⟨true, ⟨(some 42), .bin .add (.t 33) (.c (.int .i64 (.ofNat 1))), [], none⟩⟩,
   ⟨false, ⟨(some 33), .mov (.t 42), [0], none⟩⟩] [] 5497558157056)))))))
 (.seq (.region [⟨true, ⟨(some 43), .load (some 4) (.t 4), [], none⟩⟩,
   ⟨true, ⟨(some 44), .mov (.t 3), [], none⟩⟩,
   ⟨true, ⟨(some 45), .call .heap (.f 264) [(.t 43), (.t 44)], [0, 1], none⟩⟩,
   ⟨true, ⟨(some 46), .load (some 4) (.t 4), [], none⟩⟩,
   ⟨true, ⟨(some 47), .mov (.t 2), [], none⟩⟩,
   ⟨true, ⟨(some 48), .call .heap (.f 264) [(.t 46), (.t 47)], [3, 4, 2], none⟩⟩,
   ⟨true, ⟨(some 15), .alloc .dyn .nilsl, [], none⟩⟩,
   ⟨true, ⟨(some 16), .alloc .dyn .nilsl, [], none⟩⟩,
   ⟨false, ⟨none, .store 1 (.t 15) (.t 45), [6, 2, 5, 0, 1, 2, 6, 7], none⟩⟩,
   ⟨false, ⟨none, .store 1 (.t 16) (.t 48), [7, 5, 8, 0, 1, 2, 3, 4, 5, 6, 7, 8], none⟩⟩] [(2, 3), (0, 6), (2, 6), (3, 6), (5, 6), (0, 7), (2, 7), (3, 7), (5, 7), (6, 7)] 554166745301004)
 (.seq (.seq (.region [⟨true, ⟨(some 49), .load none (.t 15), [], none⟩⟩,
   ⟨true, ⟨(some 50), .mov (.t 1), [], none⟩⟩,
   ⟨true, ⟨(some 51), .iaddr none 1 (.t 49) (.t 50), [0, 1], none⟩⟩,
   ⟨true, ⟨(some 52), .load none (.t 51), [2], none⟩⟩,
   ⟨true, ⟨(some 53), .un .not (.t 52), [3], none⟩⟩] [] 8444249301319680)
 (.cond (.t 53)
  (.seq (.region [⟨true, ⟨(some 8), .mov (.c .nilsl), [], none⟩⟩,
    ⟨true, ⟨(some 9), .mov (.c (.bool false)), [0, 0], none⟩⟩,
    ⟨true, ⟨(some 10), .mov (.c (.int .i64 (.ofNat 0))), [1, 0, 1], none⟩⟩] [] 9007199254839314)
  .ret)
  .skip))
 (.seq (.region [⟨true, ⟨(some 55), .load (some 4) (.t 4), [], none⟩⟩,
   ⟨true, ⟨(some 56), .call .heap (.f 262) [(.t 55)], [0], none⟩⟩,
   ⟨true, ⟨(some 57), .mov (.t 1), [], none⟩⟩,
   ⟨true, ⟨(some 58), .mkfn 266 [] [(.t 16)], [], none⟩⟩,
   ⟨true, ⟨(some 59), .mkfn 267 [] [(.t 15)], [], none⟩⟩,
   ⟨true, ⟨(some 60), .call .heap (.f 265) [(.t 56), (.t 57), (.t 58), (.t 59)], [1, 2, 3, 4, 1], none⟩⟩,
   ⟨true, ⟨(some 54), .mov (.t 60), [5], none⟩⟩,
   ⟨true, ⟨(some 61), .extract 0 (.t 54), [6], none⟩⟩,
   ⟨true, ⟨(some 62), .extract 1 (.t 54), [6], none⟩⟩,
   ⟨false, ⟨(some 8), .mov (.t 61), [7, 5, 0, 1, 2, 3, 4, 5, 6, 7], none⟩⟩,
   ⟨false, ⟨(some 9), .mov (.t 62), [8, 9, 0, 1, 2, 3, 4, 5, 6, 7, 8, 9], none⟩⟩] [] 9214364837600134162)
 (.seq (.region [⟨true, ⟨(some 63), .mov (.t 8), [], none⟩⟩,
   ⟨true, ⟨(some 64), .mov (.t 9), [], none⟩⟩,
   ⟨false, ⟨(some 8), .mov (.t 63), [0, 0], none⟩⟩,
   ⟨false, ⟨(some 9), .mov (.t 64), [1, 2, 0, 1, 2], none⟩⟩,
   ⟨true, ⟨(some 10), .mov (.c (.int .i64 (.ofNat 0))), [3, 0, 1, 2, 3], none⟩⟩] [] 27670116110564327424)
 .ret))))))))⟩
def f220 : FFn := ⟨66, [.tmp 4, .tmp 5, .tmp 6, .tmp 7],
 (.seq (.region [⟨true, ⟨(some 2), .box .dyn (.t 0), [], none⟩⟩,
   ⟨true, ⟨(some 4), .mov (.c .nilsl), [], none⟩⟩,
   ⟨true, ⟨(some 5), .mov (.c .nilsl), [1], none⟩⟩,
   ⟨true, ⟨(some 6), .mov (.c (.bool false)), [2], none⟩⟩,
   ⟨true, ⟨(some 7), .mov (.c (.int .i64 (.ofNat 0))), [3], none⟩⟩] [] 241)
 (.seq (.seq (.region [⟨true, ⟨(some 17), .load (some 4) (.t 2), [], none⟩⟩,
   ⟨true, ⟨(some 18), .call .heap (.f 67) [(.t 17)], [0], none⟩⟩,
   ⟨true, ⟨(some 8), .mov (.t 18), [1, 1, 0, 1], none⟩⟩] [] 393216)
 (.seq (.region [⟨true, ⟨(some 19), .mov (.t 8), [], none⟩⟩,
   ⟨true, ⟨(some 20), .bin .neq (.t 19) (.c (.int .i64 (.ofNat 0))), [0], none⟩⟩] [] 524288)
 (.cond (.t 20)
  (.seq (.region [⟨true, ⟨(some 21), .mov (.t 8), [], none⟩⟩,
    ⟨true, ⟨(some 4), .mov (.c .nilsl), [], none⟩⟩,
    ⟨true, ⟨(some 5), .mov (.c .nilsl), [1, 1], none⟩⟩,
    ⟨true, ⟨(some 6), .mov (.c (.bool false)), [2, 1, 2], none⟩⟩,
    ⟨true, ⟨(some 7), .mov (.t 21), [0, 3, 0, 1, 2, 3], none⟩⟩] [] 3145990)
  .ret)
  .skip)))
 (.seq (.seq (.region [⟨true, ⟨(some 22), .mov (.t 1), [], none⟩⟩,
   ⟨true, ⟨(some 23), .call .heap (.f 268) [(.t 22), (.c (.int .i64 (.ofNat 32)))], [0], none⟩⟩,
   ⟨true, ⟨(some 9), .mov (.t 23), [1, 1, 0, 1], none⟩⟩] [] 13631984)
 (.seq (.region [⟨true, ⟨(some 24), .mov (.t 9), [], none⟩⟩,
   ⟨true, ⟨(some 25), .bin .neq (.t 24) (.c (.int .i64 (.ofNat 0))), [0], none⟩⟩] [] 16777216)
 (.cond (.t 25)
  (.seq (.region [⟨true, ⟨(some 26), .mov (.t 9), [], none⟩⟩,
    ⟨true, ⟨(some 4), .mov (.c .nilsl), [], none⟩⟩,
    ⟨true, ⟨(some 5), .mov (.c .nilsl), [1, 1], none⟩⟩,
    ⟨true, ⟨(some 6), .mov (.c (.bool false)), [2, 1, 2], none⟩⟩,
    ⟨true, ⟨(some 7), .mov (.t 26), [0, 3, 0, 1, 2, 3], none⟩⟩] [] 100663814)
  .ret)
  .skip)))
 (.seq (.region [⟨true, ⟨(some 27), .load (some 4) (.t 2), [], none⟩⟩,
   ⟨true, ⟨(some 28), .call .heap (.f 262) [(.t 27)], [0], none⟩⟩,
   ⟨true, ⟨(some 10), .alloc .dyn (.agg [.nilsl, (.int .i64 (.ofNat 0)), .nilsl, .nilsl, .nilsl]), [], none⟩⟩,
   ⟨false, ⟨none, .store 5 (.t 10) (.t 28), [2, 1, 1, 0, 1, 2], none⟩⟩] [] 436208372)
 (.seq (.region [⟨true, ⟨(some 11), .alloc .dyn (.agg [(.bool false), (.bool false), (.bool false), (.bool false), (.bool false), (.bool false), (.bool false), (.bool false), (.bool false), (.bool false), (.bool false), (.bool false), (.bool false), (.bool false), (.bool false), (.bool false), (.bool false), (.bool false), (.bool false), (.bool false), (.bool false), (.bool false), (.bool false), (.bool false), (.bool false), (.bool false), (.bool false), (.bool false), (.bool false), (.bool false), (.bool false), (.bool false)]), [], none⟩⟩] [] 0)
 (.seq (.seq (.region [⟨true, ⟨(some 29), .mov (.t 1), [], none⟩⟩,
   ⟨true, ⟨(some 30), .len 1 (.t 29), [0], none⟩⟩,
   ⟨true, ⟨(some 31), .mov (.c (.int .i64 (.ofNat 0))), [], none⟩⟩] [] 2)
 (.block 0 (.loop (.seq (.region [⟨true, ⟨(some 32), .bin .lss (.t 31) (.t 30), [], none⟩⟩] [] 0)
 (.seq (.cond (.t 32)
  .skip
  (.exit 0))
 (.seq (.block 1 (.seq (.region [⟨true, ⟨(some 33), .iaddr none 1 (.t 29) (.t 31), [], none⟩⟩,
   ⟨true, ⟨(some 34), .load none (.t 33), [0], none⟩⟩,
   ⟨true, ⟨(some 13), .mov (.t 34), [1, 0, 1], none⟩⟩] [] 30064771072)
 (.region [⟨true, ⟨(some 35), .mov (.t 13), [], none⟩⟩,
   ⟨true, ⟨(some 36), .iaddr (some 32) 1 (.t 11) (.t 35), [0, 0], none⟩⟩,
   ⟨false, ⟨none, .store 1 (.t 36) (.c (.bool true)), [1, 0], none⟩⟩] [] 103079223296)))
 (.region [⟨true, ⟨(some 37), .bin .add (.t 31) (.c (.int .i64 (.ofNat 1))), [], none⟩⟩,
   ⟨false, ⟨(some 31), .mov (.t 37), [0], none⟩⟩] [] 137438953472)))))))
 (.seq (.region [⟨true, ⟨(some 38), .mkfn 269 [] [(.t 11)], [], none⟩⟩,
   ⟨true, ⟨(some 14), .mov (.t 38), [0, 0], none⟩⟩] [] 278636005376)
 (.seq (.seq (.region [⟨true, ⟨(some 39), .load (some 5) (.t 10), [], none⟩⟩,
   ⟨true, ⟨(some 40), .call .heap (.f 270) [(.t 39)], [0], none⟩⟩,
   ⟨true, ⟨(some 41), .len 1 (.t 40), [1], none⟩⟩,
   ⟨true, ⟨(some 42), .mov (.c (.int .i64 (.ofNat 0))), [], none⟩⟩] [] 549755813888)
 (.block 2 (.loop (.seq (.region [⟨true, ⟨(some 43), .bin .lss (.t 42) (.t 41), [], none⟩⟩] [] 0)
 (.seq (.cond (.t 43)
  .skip
  (.exit 2))
 (.seq (.block 3 (.seq (.region [⟨true, ⟨(some 44), .mov (.t 42), [], none⟩⟩,
   ⟨true, ⟨(some 45), .iaddr none 1 (.t 40) (.t 42), [], none⟩⟩,
   ⟨true, ⟨(some 46), .load none (.t 45), [1], none⟩⟩,
   ⟨true, ⟨(some 15), .alloc .dyn (.int .i64 (.ofNat 0)), [], none⟩⟩,
   ⟨false, ⟨none, .store 1 (.t 15) (.t 44), [3, 0, 0, 1, 2, 3], none⟩⟩,
   ⟨true, ⟨(some 16), .mov (.t 46), [2, 4, 0, 1, 2, 3, 4], none⟩⟩] [] 131941395333120)
 (.seq (.seq (.region [⟨true, ⟨(some 47), .mov (.t 16), [], none⟩⟩,
   ⟨true, ⟨(some 48), .un .not (.t 47), [0], none⟩⟩] [] 140737488420864)
 (.cond (.t 48)
  (.exit 3)
  .skip))
 (.seq (.region [⟨true, ⟨(some 50), .load (some 5) (.t 10), [], none⟩⟩,
   ⟨true, ⟨(some 51), .load none (.t 15), [], none⟩⟩,
   ⟨true, ⟨(some 52), .mov (.t 14), [], none⟩⟩,
   ⟨true, ⟨(some 53), .call .heap (.f 271) [(.t 50), (.t 51), (.t 52)], [0, 1, 2], none⟩⟩,
   ⟨true, ⟨(some 49), .mov (.t 53), [3], none⟩⟩,
   ⟨true, ⟨(some 54), .extract 0 (.t 49), [4], none⟩⟩,
   ⟨true, ⟨(some 55), .extract 1 (.t 49), [4], none⟩⟩,
   ⟨true, ⟨(some 5), .mov (.t 54), [5, 3, 0, 1, 2, 3, 4, 5], none⟩⟩,
   ⟨true, ⟨(some 6), .mov (.t 55), [6, 7, 0, 1, 2, 3, 4, 5, 6, 7], none⟩⟩] [] 71776119061217280)
 (.seq (.region [⟨true, ⟨(some 56), .mov (.t 6), [], none⟩⟩] [] 64)
 (.cond (.t 56)
  (.seq (.region [⟨true, ⟨(some 58), .load (some 5) (.t 10), [], none⟩⟩,
    ⟨true, ⟨(some 59), .mkfn 272 [] [(.t 15)], [], none⟩⟩,
    ⟨true, ⟨(some 60), .call .heap (.f 265) [(.t 58), (.c (.int .i64 (.ofNat 0))), (.t 59), (.f 273)], [0, 1], none⟩⟩,
    ⟨true, ⟨(some 57), .mov (.t 60), [2], none⟩⟩,
    ⟨true, ⟨(some 61), .extract 0 (.t 57), [3], none⟩⟩,
    ⟨true, ⟨(some 62), .extract 1 (.t 57), [3], none⟩⟩,
    ⟨true, ⟨(some 4), .mov (.t 61), [4, 2, 0, 1, 2, 3, 4], none⟩⟩] [] 9151322139398292480)
  (.seq (.region [⟨true, ⟨(some 63), .mov (.t 4), [], none⟩⟩,
    ⟨true, ⟨(some 64), .mov (.t 5), [], none⟩⟩,
    ⟨false, ⟨(some 4), .mov (.t 63), [0, 0], none⟩⟩,
    ⟨false, ⟨(some 5), .mov (.t 64), [1, 2, 0, 1, 2], none⟩⟩,
    ⟨true, ⟨(some 6), .mov (.c (.bool true)), [3, 0, 1, 2, 3], none⟩⟩,
    ⟨true, ⟨(some 7), .mov (.c (.int .i64 (.ofNat 0))), [4, 0, 1, 2, 3, 4], none⟩⟩] [] 27670116110564327424)
  .ret))
  .skip))))))
 (.region [⟨true, ⟨(some 65), .bin .add (.t 42) (.c (.int .i64 (.ofNat 1))), [], none⟩⟩,
   ⟨false, ⟨(some 42), .mov (.t 65), [0], none⟩⟩] [] 36965545741457064176)))))))
 (.seq (.region [⟨true, ⟨(some 4), .mov (.c .nilsl), [], none⟩⟩,
   ⟨true, ⟨(some 5), .mov (.c .nilsl), [0, 0], none⟩⟩,
   ⟨true, ⟨(some 6), .mov (.c (.bool false)), [1, 0, 1], none⟩⟩,
   ⟨true, ⟨(some 7), .mov (.c (.int .i64 (.ofNat 0))), [2, 0, 1, 2], none⟩⟩] [] 7696581411840)
 .ret)))))))))⟩
def f221 : FFn := ⟨22, [.tmp 6, .tmp 7],
 (.seq (.region [⟨true, ⟨(some 3), .box .dyn (.t 0), [], none⟩⟩,
   ⟨true, ⟨(some 6), .mov (.c (.int .i64 (.ofNat 0))), [], none⟩⟩,
   ⟨true, ⟨(some 7), .mov (.c (.bool false)), [1], none⟩⟩] [] 193)
 (.seq (.region [⟨true, ⟨(some 12), .faddr 0 (.t 3), [], none⟩⟩,
   ⟨true, ⟨(some 13), .load (some 4) (.t 12), [0], none⟩⟩,
   ⟨true, ⟨(some 14), .mov (.t 1), [], none⟩⟩,
   ⟨true, ⟨(some 15), .mov (.t 2), [], none⟩⟩,
   ⟨true, ⟨(some 16), .call .heap (.f 182) [(.t 13), (.t 14), (.t 15)], [1, 2, 3], none⟩⟩,
   ⟨true, ⟨(some 11), .mov (.t 16), [4], none⟩⟩,
   ⟨true, ⟨(some 17), .extract 0 (.t 11), [5], none⟩⟩,
   ⟨true, ⟨(some 18), .extract 1 (.t 11), [5], none⟩⟩,
   ⟨true, ⟨(some 19), .extract 2 (.t 11), [5], none⟩⟩,
   ⟨true, ⟨(some 8), .mov (.t 17), [6, 4, 0, 1, 2, 3, 4, 5, 6], none⟩⟩,
   ⟨true, ⟨(some 9), .mov (.t 18), [7, 9, 0, 1, 2, 3, 4, 5, 6, 7, 9], none⟩⟩,
   ⟨true, ⟨(some 10), .mov (.t 19), [8, 10, 0, 1, 2, 3, 4, 5, 6, 7, 8, 9, 10], none⟩⟩] [] 1047566)
 (.seq (.region [⟨true, ⟨(some 20), .mov (.t 8), [], none⟩⟩,
   ⟨true, ⟨(some 21), .mov (.t 9), [], none⟩⟩,
   ⟨true, ⟨(some 6), .mov (.t 20), [0, 0], none⟩⟩,
   ⟨true, ⟨(some 7), .mov (.t 21), [1, 2, 0, 1, 2], none⟩⟩] [] 3146496)
 .ret)))⟩
def f230 : FFn := ⟨19, [.tmp 4],
 (.seq (.region [⟨true, ⟨(some 4), .mov (.c (.int .i64 (.ofNat 0))), [], none⟩⟩] [] 16)
 (.seq (.seq (.region [⟨true, ⟨(some 6), .mov (.t 0), [], none⟩⟩,
   ⟨true, ⟨(some 7), .len 1 (.t 6), [0], none⟩⟩,
   ⟨true, ⟨(some 8), .mov (.c (.int .i64 (.ofNat 0))), [], none⟩⟩] [] 64)
 (.block 0 (.loop (.seq (.region [⟨true, ⟨(some 9), .bin .lss (.t 8) (.t 7), [], none⟩⟩] [] 0)
 (.seq (.cond (.t 9)
  .skip
  (.exit 0))
 (.seq (.block 1 (.seq (.region [⟨true, ⟨(some 10), .mov (.t 8), [], none⟩⟩,
   ⟨true, ⟨(some 5), .mov (.t 10), [0, 0], none⟩⟩] [] 1536)
 (.seq (.region [⟨true, ⟨(some 11), .mov (.t 1), [], none⟩⟩,
   ⟨true, ⟨(some 12), .mov (.t 0), [], none⟩⟩,
   ⟨true, ⟨(some 13), .mov (.t 5), [], none⟩⟩,
   ⟨true, ⟨(some 14), .iaddr none 1 (.t 12) (.t 13), [1, 2], none⟩⟩,
   ⟨true, ⟨(some 15), .load none (.t 14), [3], none⟩⟩,
   ⟨true, ⟨(some 16), .bin .eql (.t 11) (.t 15), [0, 4], none⟩⟩] [] 63488)
 (.cond (.t 16)
  (.seq (.region [⟨true, ⟨(some 17), .mov (.t 5), [], none⟩⟩,
    ⟨true, ⟨(some 4), .mov (.t 17), [0, 0], none⟩⟩] [] 197027)
  .ret)
  .skip))))
 (.region [⟨true, ⟨(some 18), .bin .add (.t 8) (.c (.int .i64 (.ofNat 1))), [], none⟩⟩,
   ⟨false, ⟨(some 8), .mov (.t 18), [0], none⟩⟩] [] 327728)))))))
 (.seq (.region [⟨true, ⟨(some 4), .mov (.c (.int .i64 (.negSucc 0))), [], none⟩⟩] [] 387)
 .ret)))⟩
def f231 : FFn := ⟨19, [.tmp 4],
 (.seq (.region [⟨true, ⟨(some 4), .mov (.c (.int .i64 (.ofNat 0))), [], none⟩⟩] [] 16)
 (.seq (.seq (.region [⟨true, ⟨(some 6), .mov (.t 0), [], none⟩⟩,
   ⟨true, ⟨(some 7), .len 1 (.t 6), [0], none⟩⟩,
   ⟨true, ⟨(some 8), .mov (.c (.int .i64 (.ofNat 0))), [], none⟩⟩] [] 64)
 (.block 0 (.loop (.seq (.region [⟨true, ⟨(some 9), .bin .lss (.t 8) (.t 7), [], none⟩⟩] [] 0)
 (.seq (.cond (.t 9)
  .skip
  (.exit 0))
 (.seq (.block 1 (.seq (.region [⟨true, ⟨(some 10), .mov (.t 8), [], none⟩⟩,
   ⟨true, ⟨(some 5), .mov (.t 10), [0, 0], none⟩⟩] [] 1536)
 (.seq (.region [⟨true, ⟨(some 11), .mov (.t 1), [], none⟩⟩,
   ⟨true, ⟨(some 12), .mov (.t 0), [], none⟩⟩,
   ⟨true, ⟨(some 13), .mov (.t 5), [], none⟩⟩,
   ⟨true, ⟨(some 14), .iaddr none 3 (.t 12) (.t 13), [1, 2], none⟩⟩,
   ⟨true, ⟨(some 15), .load (some 3) (.t 14), [3], none⟩⟩,
   ⟨true, ⟨(some 16), .call .heap (.t 11) [(.t 15)], [0, 4], none⟩⟩] [] 63488)
 (.cond (.t 16)
  (.seq (.region [⟨true, ⟨(some 17), .mov (.t 5), [], none⟩⟩,
    ⟨true, ⟨(some 4), .mov (.t 17), [0, 0], none⟩⟩] [] 197027)
  .ret)
  .skip))))
 (.region [⟨true, ⟨(some 18), .bin .add (.t 8) (.c (.int .i64 (.ofNat 1))), [], none⟩⟩,
   ⟨false, ⟨(some 8), .mov (.t 18), [0], none⟩⟩] [] 327728)))))))
 (.seq (.region [⟨true, ⟨(some 4), .mov (.c (.int .i64 (.negSucc 0))), [], none⟩⟩] [] 387)
 .ret)))⟩
def f232 : FFn := ⟨8, [.tmp 3],
 (.seq (.region [⟨true, ⟨(some 2), .box .dyn (.t 0), [], none⟩⟩,
   ⟨true, ⟨(some 3), .mov (.c (.bool false)), [], none⟩⟩] [] 9)
 (.seq (.region [⟨true, ⟨(some 4), .faddr 1 (.t 2), [], none⟩⟩,
   ⟨true, ⟨(some 5), .load none (.t 4), [0], none⟩⟩,
   ⟨true, ⟨(some 6), .load none (.t 1), [], none⟩⟩,
   ⟨true, ⟨(some 7), .bin .eql (.t 5) (.t 6), [1, 2], none⟩⟩,
   ⟨true, ⟨(some 3), .mov (.t 7), [3, 0, 1, 2, 3], none⟩⟩] [] 246)
 .ret))⟩
def f239 : FFn := ⟨49, [.tmp 6, .tmp 7],
 (.seq (.region [⟨true, ⟨(some 6), .mov (.c (.int .i64 (.ofNat 0))), [], none⟩⟩,
   ⟨true, ⟨(some 7), .mov (.c (.bool false)), [0], none⟩⟩] [] 192)
 (.seq (.region [⟨true, ⟨(some 12), .mov (.t 0), [], none⟩⟩,
   ⟨true, ⟨(some 13), .len 1 (.t 12), [0], none⟩⟩,
   ⟨true, ⟨(some 8), .mov (.t 13), [1, 0, 1], none⟩⟩] [] 12288)
 (.seq (.region [⟨true, ⟨(some 14), .mov (.t 8), [], none⟩⟩,
   ⟨true, ⟨(some 9), .mov (.c (.int .i64 (.ofNat 0))), [], none⟩⟩,
   ⟨true, ⟨(some 10), .mov (.t 14), [0, 1, 0, 1], none⟩⟩] [] 16384)
 (.seq (.block 0 (.loop (.seq (.seq (.region [⟨true, ⟨(some 15), .mov (.t 9), [], none⟩⟩,
   ⟨true, ⟨(some 16), .mov (.t 10), [], none⟩⟩,
   ⟨true, ⟨(some 17), .bin .lss (.t 15) (.t 16), [0, 1], none⟩⟩] [] 98304)
 (.cond (.t 17)
  .skip
  (.exit 0)))
 (.block 1 (.seq (.region [⟨true, ⟨(some 18), .mov (.t 9), [], none⟩⟩,
   ⟨true, ⟨(some 19), .mov (.t 10), [], none⟩⟩,
   ⟨true, ⟨(some 20), .bin .add (.t 18) (.t 19), [0, 1], none⟩⟩,
   ⟨true, ⟨(some 21), .conv .u64 (.t 20), [2], none⟩⟩,
   ⟨true, ⟨(some 22), .bin .shr (.t 21) (.c (.int .u64 (.ofNat 1))), [3], none⟩⟩,
   ⟨true, ⟨(some 23), .conv .i64 (.t 22), [4], none⟩⟩,
   ⟨true, ⟨(some 11), .mov (.t 23), [5, 0, 1, 2, 3, 4, 5], none⟩⟩] [] 16646144)
 (.seq (.region [⟨true, ⟨(some 24), .mov (.t 2), [], none⟩⟩,
   ⟨true, ⟨(some 25), .mov (.t 0), [], none⟩⟩,
   ⟨true, ⟨(some 26), .mov (.t 11), [], none⟩⟩,
   ⟨true, ⟨(some 27), .iaddr none 3 (.t 25) (.t 26), [1, 2], none⟩⟩,
   ⟨true, ⟨(some 28), .load (some 3) (.t 27), [3], none⟩⟩,
   ⟨true, ⟨(some 29), .mov (.t 1), [], none⟩⟩,
   ⟨true, ⟨(some 30), .call .heap (.t 24) [(.t 28), (.t 29)], [0, 4, 5], none⟩⟩,
   ⟨true, ⟨(some 31), .bin .lss (.t 30) (.c (.int .i64 (.ofNat 0))), [6], none⟩⟩] [] 2130706432)
 (.cond (.t 31)
  (.region [⟨true, ⟨(some 32), .mov (.t 11), [], none⟩⟩,
    ⟨true, ⟨(some 33), .bin .add (.t 32) (.c (.int .i64 (.ofNat 1))), [0], none⟩⟩,
    ⟨false, ⟨(some 9), .mov (.t 33), [1, 0, 1], none⟩⟩] [] 15032387584)
  (.region [⟨true, ⟨(some 34), .mov (.t 11), [], none⟩⟩,
    ⟨false, ⟨(some 10), .mov (.t 34), [0, 0], none⟩⟩] [] 19327354880))))))))
 (.seq (.region [⟨true, ⟨(some 35), .mov (.t 9), [], none⟩⟩,
   ⟨true, ⟨(some 36), .mov (.t 9), [], none⟩⟩,
   ⟨true, ⟨(some 37), .mov (.t 8), [], none⟩⟩,
   ⟨true, ⟨(some 38), .bin .lss (.t 36) (.t 37), [1, 2], none⟩⟩,
   ⟨true, ⟨(some 39), .mov (.t 38), [3], none⟩⟩,
   ⟨false, ⟨(some 40), .mov (.t 2), [4], (some (39, true))⟩⟩,
   ⟨false, ⟨(some 41), .mov (.t 0), [4], (some (39, true))⟩⟩,
   ⟨false, ⟨(some 42), .mov (.t 9), [4], (some (39, true))⟩⟩,
   ⟨false, ⟨(some 43), .iaddr none 3 (.t 41) (.t 42), [6, 7, 4], (some (39, true))⟩⟩,
   ⟨false, ⟨(some 44), .load (some 3) (.t 43), [8, 4], (some (39, true))⟩⟩,
   ⟨false, ⟨(some 45), .mov (.t 1), [4], (some (39, true))⟩⟩,
   ⟨false, ⟨(some 46), .call .heap (.t 40) [(.t 44), (.t 45)], [5, 9, 10, 4, 4], (some (39, true))⟩⟩,
   ⟨false, ⟨(some 47), .bin .eql (.t 46) (.c (.int .i64 (.ofNat 0))), [11, 4], (some (39, true))⟩⟩,
   ⟨true, ⟨(some 48), .pick (.t 39) (.t 47) (.c (.bool false)), [4, 12], none⟩⟩,
   ⟨true, ⟨(some 6), .mov (.t 35), [0, 11, 0], none⟩⟩,
   ⟨true, ⟨(some 7), .mov (.t 48), [13, 14, 0, 1, 2, 3, 4, 5, 6, 7, 8, 9, 10, 11, 12, 13, 14], none⟩⟩] [] 562915593684743)
 .ret)))))⟩
def f240 : FFn := ⟨9, [.tmp 4],
 (.seq (.region [⟨true, ⟨(some 2), .box .dyn (.t 0), [], none⟩⟩,
   ⟨true, ⟨(some 4), .mov (.c (.int .i64 (.ofNat 0))), [], none⟩⟩] [] 17)
 (.seq (.region [⟨true, ⟨(some 5), .faddr 0 (.t 2), [], none⟩⟩,
   ⟨true, ⟨(some 6), .load none (.t 5), [0], none⟩⟩,
   ⟨true, ⟨(some 7), .mov (.t 1), [], none⟩⟩,
   ⟨true, ⟨(some 8), .bin .sub (.t 6) (.t 7), [1, 2], none⟩⟩,
   ⟨true, ⟨(some 4), .mov (.t 8), [3, 0, 1, 2, 3], none⟩⟩] [] 486)
 .ret))⟩
def f241 : FFn := ⟨9, [.tmp 4],
 (.seq (.region [⟨true, ⟨(some 2), .box .dyn (.t 0), [], none⟩⟩,
   ⟨true, ⟨(some 4), .mov (.c (.int .i64 (.ofNat 0))), [], none⟩⟩] [] 17)
 (.seq (.region [⟨true, ⟨(some 5), .faddr 0 (.t 2), [], none⟩⟩,
   ⟨true, ⟨(some 6), .load none (.t 5), [0], none⟩⟩,
   ⟨true, ⟨(some 7), .mov (.t 1), [], none⟩⟩,
   ⟨true, ⟨(some 8), .bin .sub (.t 6) (.t 7), [1, 2], none⟩⟩,
   ⟨true, ⟨(some 4), .mov (.t 8), [3, 0, 1, 2, 3], none⟩⟩] [] 486)
 .ret))⟩
def f252 : FFn := ⟨15, [.tmp 2],
 (.seq (.region [⟨true, ⟨(some 2), .mov (.c (.str [])), [], none⟩⟩] [] 4)
 (.seq (.seq (.region [⟨true, ⟨(some 3), .mov (.t 0), [], none⟩⟩,
   ⟨true, ⟨(some 4), .bin .lss (.t 3) (.c (.int .i64 (.ofNat 10))), [0], none⟩⟩] [] 8)
 (.cond (.t 4)
  (.seq (.region [⟨true, ⟨(some 5), .mov (.t 0), [], none⟩⟩,
    ⟨true, ⟨(some 6), .mov (.t 0), [], none⟩⟩,
    ⟨true, ⟨(some 7), .bin .add (.t 6) (.c (.int .i64 (.ofNat 1))), [1], none⟩⟩,
    ⟨true, ⟨(some 8), .slice none (.c (.str [48, 49, 50, 51, 52, 53, 54, 55, 56, 57, 97, 98, 99, 100, 101, 102, 103, 104, 105, 106, 107, 108, 109, 110, 111, 112, 113, 114, 115, 116, 117, 118, 119, 120, 121, 122])) (some (.t 5)) (some (.t 7)) none, [0, 2], none⟩⟩,
    ⟨true, ⟨(some 2), .mov (.t 8), [3, 0, 1, 2, 3], none⟩⟩] [] 497)
  .ret)
  .skip))
 (.seq (.region [⟨true, ⟨(some 9), .mov (.t 0), [], none⟩⟩,
   ⟨true, ⟨(some 10), .bin .mul (.t 9) (.c (.int .i64 (.ofNat 2))), [0], none⟩⟩,
   ⟨true, ⟨(some 11), .mov (.t 0), [], none⟩⟩,
   ⟨true, ⟨(some 12), .bin .mul (.t 11) (.c (.int .i64 (.ofNat 2))), [2], none⟩⟩,
   ⟨true, ⟨(some 13), .bin .add (.t 12) (.c (.int .i64 (.ofNat 2))), [3], none⟩⟩,
   ⟨true, ⟨(some 14), .slice none (.c (.str [48, 48, 48, 49, 48, 50, 48, 51, 48, 52, 48, 53, 48, 54, 48, 55, 48, 56, 48, 57, 49, 48, 49, 49, 49, 50, 49, 51, 49, 52, 49, 53, 49, 54, 49, 55, 49, 56, 49, 57, 50, 48, 50, 49, 50, 50, 50, 51, 50, 52, 50, 53, 50, 54, 50, 55, 50, 56, 50, 57, 51, 48, 51, 49, 51, 50, 51, 51, 51, 52, 51, 53, 51, 54, 51, 55, 51, 56, 51, 57, 52, 48, 52, 49, 52, 50, 52, 51, 52, 52, 52, 53, 52, 54, 52, 55, 52, 56, 52, 57, 53, 48, 53, 49, 53, 50, 53, 51, 53, 52, 53, 53, 53, 54, 53, 55, 53, 56, 53, 57, 54, 48, 54, 49, 54, 50, 54, 51, 54, 52, 54, 53, 54, 54, 54, 55, 54, 56, 54, 57, 55, 48, 55, 49, 55, 50, 55, 51, 55, 52, 55, 53, 55, 54, 55, 55, 55, 56, 55, 57, 56, 48, 56, 49, 56, 50, 56, 51, 56, 52, 56, 53, 56, 54, 56, 55, 56, 56, 56, 57, 57, 48, 57, 49, 57, 50, 57, 51, 57, 52, 57, 53, 57, 54, 57, 55, 57, 56, 57, 57])) (some (.t 10)) (some (.t 13)) none, [1, 4], none⟩⟩,
   ⟨false, ⟨(some 2), .mov (.t 14), [5, 0, 1, 2, 3, 4, 5], none⟩⟩] [] 32273)
 .ret)))⟩
def f259 : FFn := ⟨6, [.tmp 2],
 (.seq (.region [⟨true, ⟨(some 2), .mov (.c (.bool false)), [], none⟩⟩] [] 4)
 (.seq (.region [⟨true, ⟨(some 3), .mov (.t 0), [], none⟩⟩,
   ⟨true, ⟨(some 4), .mov (.t 0), [], none⟩⟩,
   ⟨true, ⟨(some 5), .bin .neq (.t 3) (.t 4), [0, 1], none⟩⟩,
   ⟨true, ⟨(some 2), .mov (.t 5), [2, 0, 1, 2], none⟩⟩] [] 57)
 .ret))⟩
def f261 : FFn := ⟨9, [.tmp 3],
 (.seq (.region [⟨true, ⟨(some 3), .mov (.c (.bool false)), [], none⟩⟩] [] 8)
 (.seq (.region [⟨true, ⟨(some 4), .mov (.t 0), [], none⟩⟩,
   ⟨true, ⟨(some 5), .faddr 4 (.t 1), [], none⟩⟩,
   ⟨true, ⟨(some 6), .load none (.t 5), [1], none⟩⟩,
   ⟨true, ⟨(some 7), .len 1 (.t 6), [2], none⟩⟩,
   ⟨true, ⟨(some 8), .bin .geq (.t 4) (.t 7), [0, 3], none⟩⟩,
   ⟨true, ⟨(some 3), .mov (.t 8), [4, 0, 1, 2, 3, 4], none⟩⟩] [] 499)
 .ret))⟩
def f262 : FFn := ⟨50, [.cell 2 (some 5)],
 (.seq (.region [⟨true, ⟨(some 1), .box .dyn (.t 0), [], none⟩⟩,
   ⟨true, ⟨(some 2), .alloc .dyn (.agg [.nilsl, (.int .i64 (.ofNat 0)), .nilsl, .nilsl, .nilsl]), [], none⟩⟩] [] 1)
 (.seq (.region [⟨true, ⟨(some 7), .load (some 4) (.t 1), [], none⟩⟩,
   ⟨true, ⟨(some 8), .faddr 1 (.t 1), [], none⟩⟩,
   ⟨true, ⟨(some 9), .load none (.t 8), [1], none⟩⟩,
   ⟨true, ⟨(some 10), .bin .add (.t 9) (.c (.int .i64 (.ofNat 1))), [2], none⟩⟩,
   ⟨true, ⟨(some 11), .mkslice .dyn 1 8 [(.int .i64 (.ofNat 0))] (.t 10) (.t 10), [3, 3], none⟩⟩,
   ⟨true, ⟨(some 12), .build [.nilsl, (.int .i64 (.ofNat 0)), .nilsl, .nilsl, .nilsl] [(0, 4, (.t 7)), (4, 1, (.t 11))], [0, 4], none⟩⟩,
   ⟨true, ⟨(some 3), .alloc .dyn (.agg [.nilsl, (.int .i64 (.ofNat 0)), .nilsl, .nilsl, .nilsl]), [], none⟩⟩,
   ⟨false, ⟨none, .store 5 (.t 3) (.t 12), [6, 5, 0, 1, 2, 3, 4, 5, 6], none⟩⟩] [] 8064)
 (.seq (.seq (.region [⟨true, ⟨(some 13), .faddr 3 (.t 1), [], none⟩⟩,
   ⟨true, ⟨(some 14), .load none (.t 13), [0], none⟩⟩,
   ⟨true, ⟨(some 15), .len 1 (.t 14), [1], none⟩⟩,
   ⟨true, ⟨(some 16), .mov (.c (.int .i64 (.ofNat 0))), [], none⟩⟩] [] 8192)
 (.block 0 (.loop (.seq (.region [⟨true, ⟨(some 17), .bin .lss (.t 16) (.t 15), [], none⟩⟩] [] 0)
 (.seq (.cond (.t 17)
  .skip
  (.exit 0))
 (.seq (.block 1 (.seq (.region [⟨true, ⟨(some 18), .iaddr none 3 (.t 14) (.t 16), [], none⟩⟩,
   ⟨true, ⟨(some 19), .load (some 3) (.t 18), [0], none⟩⟩,
   ⟨true, ⟨(some 5), .alloc .dyn (.agg [(.int .i64 (.ofNat 0)), (.int .i64 (.ofNat 0)), (.int .i64 (.ofNat 0))]), [], none⟩⟩,
   ⟨false, ⟨none, .store 3 (.t 5) (.t 19), [2, 1, 0, 1, 2], none⟩⟩] [] 917504)
 (.region [⟨true, ⟨(some 20), .faddr 4 (.t 3), [], none⟩⟩,
   ⟨true, ⟨(some 21), .load none (.t 20), [0], none⟩⟩,
   ⟨true, ⟨(some 22), .faddr 0 (.t 5), [], none⟩⟩,
   ⟨true, ⟨(some 23), .load none (.t 22), [2], none⟩⟩,
   ⟨true, ⟨(some 24), .bin .add (.t 23) (.c (.int .i64 (.ofNat 1))), [3], none⟩⟩,
   ⟨true, ⟨(some 25), .iaddr none 1 (.t 21) (.t 24), [1, 4], none⟩⟩,
   ⟨true, ⟨(some 26), .load none (.t 25), [5], none⟩⟩,
   ⟨true, ⟨(some 27), .bin .add (.t 26) (.c (.int .i64 (.ofNat 1))), [6], none⟩⟩,
   ⟨true, ⟨(some 28), .iaddr none 1 (.t 21) (.t 24), [1, 4, 0, 1, 2, 3, 4, 5, 6, 7], none⟩⟩,
   ⟨false, ⟨none, .store 1 (.t 28) (.t 27), [8, 7, 0, 1, 2, 3, 4, 5, 6, 7], none⟩⟩] [] 535822368)))
 (.region [⟨true, ⟨(some 29), .bin .add (.t 16) (.c (.int .i64 (.ofNat 1))), [], none⟩⟩,
   ⟨false, ⟨(some 16), .mov (.t 29), [0], none⟩⟩] [] 536870912)))))))
 (.seq (.seq (.region [⟨true, ⟨(some 30), .faddr 1 (.t 1), [], none⟩⟩,
   ⟨true, ⟨(some 31), .load none (.t 30), [0], none⟩⟩,
   ⟨true, ⟨(some 32), .mov (.c (.int .i64 (.ofNat 0))), [], none⟩⟩] [] 1073856514)
 (.block 2 (.loop (.seq (.region [⟨true, ⟨(some 33), .bin .lss (.t 32) (.t 31), [], none⟩⟩] [] 0)
 (.seq (.cond (.t 33)
  .skip
  (.exit 2))
 (.seq (.block 3 (.seq (.region [⟨true, ⟨(some 34), .mov (.t 32), [], none⟩⟩,
   ⟨true, ⟨(some 6), .mov (.t 34), [0, 0], none⟩⟩] [] 25769803776)
 (.region [⟨true, ⟨(some 35), .faddr 4 (.t 3), [], none⟩⟩,
   ⟨true, ⟨(some 36), .load none (.t 35), [0], none⟩⟩,
   ⟨true, ⟨(some 37), .mov (.t 6), [], none⟩⟩,
   ⟨true, ⟨(some 38), .bin .add (.t 37) (.c (.int .i64 (.ofNat 1))), [2], none⟩⟩,
   ⟨true, ⟨(some 39), .iaddr none 1 (.t 36) (.t 38), [1, 3], none⟩⟩,
   ⟨true, ⟨(some 40), .load none (.t 39), [4], none⟩⟩,
   ⟨true, ⟨(some 41), .faddr 4 (.t 3), [], none⟩⟩,
   ⟨true, ⟨(some 42), .load none (.t 41), [6], none⟩⟩,
   ⟨true, ⟨(some 43), .mov (.t 6), [], none⟩⟩,
   ⟨true, ⟨(some 44), .iaddr none 1 (.t 42) (.t 43), [7, 8], none⟩⟩,
   ⟨true, ⟨(some 45), .load none (.t 44), [9], none⟩⟩,
   ⟨true, ⟨(some 46), .bin .add (.t 40) (.t 45), [5, 10], none⟩⟩,
   ⟨true, ⟨(some 47), .iaddr none 1 (.t 36) (.t 38), [1, 3, 0, 1, 2, 3, 4, 5, 6, 7, 8, 9, 10, 11], none⟩⟩,
   ⟨false, ⟨none, .store 1 (.t 47) (.t 46), [12, 11, 0, 1, 2, 3, 4, 5, 6, 7, 8, 9, 10, 11], none⟩⟩] [] 281440616972352)))
 (.region [⟨true, ⟨(some 48), .bin .add (.t 32) (.c (.int .i64 (.ofNat 1))), [], none⟩⟩,
   ⟨false, ⟨(some 32), .mov (.t 48), [0], none⟩⟩] [] 281474976710656)))))))
 (.seq (.region [⟨true, ⟨(some 49), .load (some 5) (.t 3), [], none⟩⟩,
   ⟨false, ⟨none, .store 5 (.t 2) (.t 49), [0, 0], none⟩⟩] [] 562956395872264)
 .ret)))))⟩
def f263 : FFn := ⟨9, [.tmp 4],
 (.seq (.region [⟨true, ⟨(some 2), .box .dyn (.t 0), [], none⟩⟩,
   ⟨true, ⟨(some 4), .mov (.c (.int .i64 (.ofNat 0))), [], none⟩⟩] [] 17)
 (.seq (.region [⟨true, ⟨(some 5), .mov (.t 1), [], none⟩⟩,
   ⟨true, ⟨(some 6), .faddr 1 (.t 2), [], none⟩⟩,
   ⟨true, ⟨(some 7), .load none (.t 6), [1], none⟩⟩,
   ⟨true, ⟨(some 8), .call .heap (.f 268) [(.t 5), (.t 7)], [0, 2], none⟩⟩,
   ⟨true, ⟨(some 4), .mov (.t 8), [3, 3, 0, 1, 2, 3], none⟩⟩] [] 486)
 .ret))⟩
def f264 : FFn := ⟨22, [.tmp 4],
 (.seq (.region [⟨true, ⟨(some 2), .box .dyn (.t 0), [], none⟩⟩,
   ⟨true, ⟨(some 4), .mov (.c .nilsl), [], none⟩⟩] [] 17)
 (.seq (.region [⟨true, ⟨(some 8), .faddr 1 (.t 2), [], none⟩⟩,
   ⟨true, ⟨(some 9), .load none (.t 8), [0], none⟩⟩,
   ⟨true, ⟨(some 10), .mkslice .dyn 1 1 [(.bool false)] (.t 9) (.t 9), [1, 1], none⟩⟩,
   ⟨true, ⟨(some 5), .mov (.t 10), [2, 0, 1, 2], none⟩⟩] [] 1796)
 (.seq (.seq (.region [⟨true, ⟨(some 11), .mov (.t 1), [], none⟩⟩,
   ⟨true, ⟨(some 12), .len 1 (.t 11), [0], none⟩⟩,
   ⟨true, ⟨(some 13), .mov (.c (.int .i64 (.ofNat 0))), [], none⟩⟩] [] 2)
 (.block 0 (.loop (.seq (.region [⟨true, ⟨(some 14), .bin .lss (.t 13) (.t 12), [], none⟩⟩] [] 0)
 (.seq (.cond (.t 14)
  .skip
  (.exit 0))
 (.seq (.block 1 (.seq (.region [⟨true, ⟨(some 15), .iaddr none 1 (.t 11) (.t 13), [], none⟩⟩,
   ⟨true, ⟨(some 16), .load none (.t 15), [0], none⟩⟩,
   ⟨true, ⟨(some 7), .mov (.t 16), [1, 0, 1], none⟩⟩] [] 114688)
 (.region [⟨true, ⟨(some 17), .mov (.t 5), [], none⟩⟩,
   ⟨true, ⟨(some 18), .mov (.t 7), [], none⟩⟩,
   ⟨true, ⟨(some 19), .iaddr none 1 (.t 17) (.t 18), [0, 1, 0, 1], none⟩⟩,
   ⟨false, ⟨none, .store 1 (.t 19) (.c (.bool true)), [2, 0, 1], none⟩⟩] [] 917632)))
 (.region [⟨true, ⟨(some 20), .bin .add (.t 13) (.c (.int .i64 (.ofNat 1))), [], none⟩⟩,
   ⟨false, ⟨(some 13), .mov (.t 20), [0], none⟩⟩] [] 1048576)))))))
 (.seq (.region [⟨true, ⟨(some 21), .mov (.t 5), [], none⟩⟩,
   ⟨true, ⟨(some 4), .mov (.t 21), [0, 0], none⟩⟩] [] 2111520)
 .ret))))⟩
def f265 : FFn := ⟨95, [.tmp 8, .tmp 9],
 (.seq (.region [⟨true, ⟨(some 4), .box .dyn (.t 0), [], none⟩⟩,
   ⟨true, ⟨(some 7), .box .dyn (.t 3), [], none⟩⟩,
   ⟨true, ⟨(some 8), .mov (.c .nilsl), [], none⟩⟩,
   ⟨true, ⟨(some 9), .mov (.c (.bool false)), [2], none⟩⟩] [] 9)
 (.seq (.region [⟨true, ⟨(some 16), .mov (.t 1), [], none⟩⟩,
   ⟨true, ⟨(some 17), .build [(.int .i64 (.ofNat 0)), (.int .i64 (.ofNat 0)), (.int .i64 (.ofNat 0))] [(0, 1, (.t 16)), (1, 1, (.c (.int .i64 (.negSucc 0)))), (2, 1, (.c (.int .i64 (.negSucc 0))))], [0], none⟩⟩,
   ⟨true, ⟨(some 18), .bslice false .dyn 3 1 [(.int .i64 (.ofNat 0)), (.int .i64 (.ofNat 0)), (.int .i64 (.ofNat 0))] [(0, 3, (.t 17))], [1], none⟩⟩,
   ⟨true, ⟨(some 10), .alloc .dyn .nilsl, [], none⟩⟩,
   ⟨false, ⟨none, .store 1 (.t 10) (.t 18), [3, 2, 0, 1, 2, 3], none⟩⟩] [] 458752)
 (.seq (.region [⟨true, ⟨(some 19), .faddr 0 (.t 4), [], none⟩⟩,
   ⟨true, ⟨(some 20), .faddr 1 (.t 19), [0], none⟩⟩,
   ⟨true, ⟨(some 21), .load none (.t 20), [1], none⟩⟩,
   ⟨true, ⟨(some 22), .mkslice .dyn 1 1 [(.bool false)] (.t 21) (.t 21), [2, 2], none⟩⟩,
   ⟨true, ⟨(some 11), .alloc .dyn .nilsl, [], none⟩⟩,
   ⟨false, ⟨none, .store 1 (.t 11) (.t 22), [4, 3, 0, 1, 2, 3, 4], none⟩⟩] [] 7864320)
 (.seq (.region [⟨true, ⟨(some 23), .load none (.t 11), [], none⟩⟩,
   ⟨true, ⟨(some 24), .mov (.t 1), [], none⟩⟩,
   ⟨true, ⟨(some 25), .iaddr none 1 (.t 23) (.t 24), [0, 1, 0, 1], none⟩⟩,
   ⟨false, ⟨none, .store 1 (.t 25) (.c (.bool true)), [2, 0, 1], none⟩⟩] [] 58720258)
 (.seq (.seq (.region [⟨true, ⟨(some 12), .alloc .dyn (.int .i64 (.ofNat 0)), [], none⟩⟩,
   ⟨false, ⟨none, .store 1 (.t 12) (.c (.int .i64 (.ofNat 0))), [0, 0], none⟩⟩] [] 0)
 (.block 0 (.loop (.seq (.seq (.region [⟨true, ⟨(some 26), .load none (.t 12), [], none⟩⟩,
   ⟨true, ⟨(some 27), .load none (.t 10), [], none⟩⟩,
   ⟨true, ⟨(some 28), .len 1 (.t 27), [1], none⟩⟩,
   ⟨true, ⟨(some 29), .bin .lss (.t 26) (.t 28), [0, 2], none⟩⟩] [] 469762048)
 (.cond (.t 29)
  .skip
  (.exit 0)))
 (.seq (.block 1 (.seq (.seq (.region [⟨true, ⟨(some 32), .mov (.t 2), [], none⟩⟩,
   ⟨true, ⟨(some 33), .load none (.t 10), [], none⟩⟩,
   ⟨true, ⟨(some 34), .load none (.t 12), [], none⟩⟩,
   ⟨true, ⟨(some 35), .iaddr none 3 (.t 33) (.t 34), [1, 2], none⟩⟩,
   ⟨true, ⟨(some 36), .faddr 0 (.t 35), [3], none⟩⟩,
   ⟨true, ⟨(some 37), .load none (.t 36), [4], none⟩⟩,
   ⟨true, ⟨(some 38), .call .heap (.t 32) [(.t 37)], [0, 5], none⟩⟩] [] 271119810560)
 (.cond (.t 38)
  (.seq (.region [⟨true, ⟨(some 13), .mov (.c .nilsl), [], none⟩⟩] [] 1057810092163075405777812)
  (.seq (.seq (.region [⟨true, ⟨(some 39), .load none (.t 12), [], none⟩⟩,
    ⟨true, ⟨(some 14), .mov (.t 39), [0, 0], none⟩⟩] [] 549755817984)
  (.block 2 (.loop (.seq (.seq (.region [⟨true, ⟨(some 40), .load none (.t 10), [], none⟩⟩,
    ⟨true, ⟨(some 41), .mov (.t 14), [], none⟩⟩,
    ⟨true, ⟨(some 42), .iaddr none 3 (.t 40) (.t 41), [0, 1], none⟩⟩,
    ⟨true, ⟨(some 43), .faddr 1 (.t 42), [2], none⟩⟩,
    ⟨true, ⟨(some 44), .load none (.t 43), [3], none⟩⟩,
    ⟨true, ⟨(some 45), .bin .geq (.t 44) (.c (.int .i64 (.ofNat 0))), [4], none⟩⟩] [] 34084860461056)
  (.cond (.t 45)
   .skip
   (.exit 2)))
  (.seq (.block 3 (.region [⟨true, ⟨(some 51), .mov (.t 13), [], none⟩⟩,
    ⟨true, ⟨(some 52), .load none (.t 10), [], none⟩⟩,
    ⟨true, ⟨(some 53), .mov (.t 14), [], none⟩⟩,
    ⟨true, ⟨(some 54), .iaddr none 3 (.t 52) (.t 53), [1, 2], none⟩⟩,
    ⟨true, ⟨(some 55), .faddr 2 (.t 54), [3], none⟩⟩,
    ⟨true, ⟨(some 56), .load none (.t 55), [4], none⟩⟩,
    ⟨true, ⟨(some 57), .bslice false .dyn 1 1 [(.int .i64 (.ofNat 0))] [(0, 1, (.t 56))], [5], none⟩⟩,
    ⟨true, ⟨(some 58), .append .dyn 1 8 (.t 51) (.t 57), [0, 6], none⟩⟩,
    ⟨false, ⟨(some 13), .mov (.t 58), [7, 7, 0, 1, 2, 3, 4, 5, 6, 7], none⟩⟩] [] 574244136861827072))
  (.region [⟨true, ⟨(some 46), .load none (.t 10), [], none⟩⟩,
    ⟨true, ⟨(some 47), .mov (.t 14), [], none⟩⟩,
    ⟨true, ⟨(some 48), .iaddr none 3 (.t 46) (.t 47), [0, 1], none⟩⟩,
    ⟨true, ⟨(some 49), .faddr 1 (.t 48), [2], none⟩⟩,
    ⟨true, ⟨(some 50), .load none (.t 49), [3], none⟩⟩,
    ⟨false, ⟨(some 14), .mov (.t 50), [4, 0, 1, 2, 3, 4], none⟩⟩] [] 2181431069507584))))))
  (.seq (.region [⟨true, ⟨(some 59), .mov (.t 13), [], none⟩⟩,
    ⟨true, ⟨(some 60), .call .heap (.f 294) [(.t 59)], [0], none⟩⟩] [] 1729382256910287872)
  (.seq (.region [⟨true, ⟨(some 61), .mov (.t 13), [], none⟩⟩,
    ⟨true, ⟨(some 8), .mov (.t 61), [0, 0], none⟩⟩,
    ⟨true, ⟨(some 9), .mov (.c (.bool true)), [1, 0, 1], none⟩⟩] [] 2305843009213702144)
  .ret))))
  .skip))
 (.seq (.region [⟨true, ⟨(some 62), .load (some 5) (.t 4), [], none⟩⟩,
   ⟨true, ⟨(some 63), .load none (.t 10), [], none⟩⟩,
   ⟨true, ⟨(some 64), .load none (.t 12), [], none⟩⟩,
   ⟨true, ⟨(some 65), .iaddr none 3 (.t 63) (.t 64), [1, 2], none⟩⟩,
   ⟨true, ⟨(some 66), .faddr 0 (.t 65), [3], none⟩⟩,
   ⟨true, ⟨(some 67), .load none (.t 66), [4], none⟩⟩,
   ⟨true, ⟨(some 68), .call .heap (.f 295) [(.t 62), (.t 67)], [0, 5], none⟩⟩] [] 290536219435803344896)
 (.block 4 (.rfunc (.t 68) [69] 95 (.region [⟨true, ⟨(some 15), .alloc .dyn (.agg [(.int .i64 (.ofNat 0)), (.int .i64 (.ofNat 0)), (.int .i64 (.ofNat 0))]), [], none⟩⟩,
    ⟨false, ⟨none, .store 3 (.t 15) (.t 69), [0, 0], none⟩⟩] [] 885443715538058478356)
  (.block 5 (.seq (.region [⟨true, ⟨(some 70), .load none (.t 11), [], none⟩⟩,
    ⟨true, ⟨(some 71), .faddr 2 (.t 15), [], none⟩⟩,
    ⟨true, ⟨(some 72), .load none (.t 71), [1], none⟩⟩,
    ⟨true, ⟨(some 73), .iaddr none 1 (.t 70) (.t 72), [0, 2], none⟩⟩,
    ⟨true, ⟨(some 74), .load none (.t 73), [3], none⟩⟩,
    ⟨true, ⟨(some 75), .un .not (.t 74), [4], none⟩⟩,
    ⟨true, ⟨(some 76), .mov (.t 75), [5], none⟩⟩,
    ⟨false, ⟨(some 77), .load none (.t 7), [6], (some (76, true))⟩⟩,
    ⟨false, ⟨(some 78), .load (some 3) (.t 15), [6], (some (76, true))⟩⟩,
    ⟨false, ⟨(some 79), .call .heap (.t 77) [(.t 78)], [7, 8, 6, 6], (some (76, true))⟩⟩,
    ⟨true, ⟨(some 80), .pick (.t 76) (.t 79) (.c (.bool false)), [6, 9], none⟩⟩] [] 1207745227993911763402880)
  (.cond (.t 80)
   (.seq (.region [⟨true, ⟨(some 81), .load none (.t 11), [], none⟩⟩,
     ⟨true, ⟨(some 82), .faddr 2 (.t 15), [], none⟩⟩,
     ⟨true, ⟨(some 83), .load none (.t 82), [1], none⟩⟩,
     ⟨true, ⟨(some 84), .iaddr none 1 (.t 81) (.t 83), [0, 2, 0, 1, 2], none⟩⟩,
     ⟨false, ⟨none, .store 1 (.t 84) (.c (.bool true)), [3, 0, 1, 2], none⟩⟩] [] 37476700408053504415893504)
   (.region [⟨true, ⟨(some 85), .load none (.t 10), [], none⟩⟩,
     ⟨true, ⟨(some 86), .faddr 2 (.t 15), [], none⟩⟩,
     ⟨true, ⟨(some 87), .load none (.t 86), [1], none⟩⟩,
     ⟨true, ⟨(some 88), .load none (.t 12), [], none⟩⟩,
     ⟨true, ⟨(some 89), .faddr 1 (.t 15), [], none⟩⟩,
     ⟨true, ⟨(some 90), .load none (.t 89), [4], none⟩⟩,
     ⟨true, ⟨(some 91), .build [(.int .i64 (.ofNat 0)), (.int .i64 (.ofNat 0)), (.int .i64 (.ofNat 0))] [(0, 1, (.t 87)), (1, 1, (.t 88)), (2, 1, (.t 90))], [2, 3, 5], none⟩⟩,
     ⟨true, ⟨(some 92), .bslice false .dyn 3 1 [(.int .i64 (.ofNat 0)), (.int .i64 (.ofNat 0)), (.int .i64 (.ofNat 0))] [(0, 3, (.t 91))], [6], none⟩⟩,
     ⟨true, ⟨(some 93), .append .dyn 3 24 (.t 85) (.t 92), [0, 7], none⟩⟩,
     ⟨false, ⟨none, .store 1 (.t 10) (.t 93), [8, 8, 0, 1, 2, 3, 4, 5, 6, 7, 8], none⟩⟩] [] 19768355002338416264795427840))
   .skip))))))))
 (.seq (.seq (.region [⟨true, ⟨(some 94), .load none (.t 12), [], none⟩⟩] [] 295147905179352829952)
 (.region [⟨true, ⟨(some 12), .alloc .dyn (.int .i64 (.ofNat 0)), [], none⟩⟩,
   ⟨false, ⟨none, .store 1 (.t 12) (.t 94), [0, 0], none⟩⟩] [] 19807040628566084398385987584))
 (.region [⟨true, ⟨(some 30), .load none (.t 12), [], none⟩⟩,
   ⟨true, ⟨(some 31), .bin .add (.t 30) (.c (.int .i64 (.ofNat 1))), [0], none⟩⟩,
   ⟨false, ⟨none, .store 1 (.t 12) (.t 31), [1, 0, 1], none⟩⟩] [] 3221225472)))))))
 (.seq (.region [⟨false, ⟨(some 8), .mov (.c .nilsl), [], none⟩⟩,
   ⟨false, ⟨(some 9), .mov (.c (.bool false)), [0, 0], none⟩⟩] [] 1057810092162800527875220)
 .ret))))))⟩
def f266 : FFn := ⟨8, [.tmp 3],
 (.seq (.region [⟨true, ⟨(some 3), .mov (.c (.bool false)), [], none⟩⟩] [] 8)
 (.seq (.region [⟨true, ⟨(some 4), .load none (.t 1), [], none⟩⟩,
   ⟨true, ⟨(some 5), .mov (.t 0), [], none⟩⟩,
   ⟨true, ⟨(some 6), .iaddr none 1 (.t 4) (.t 5), [0, 1], none⟩⟩,
   ⟨true, ⟨(some 7), .load none (.t 6), [2], none⟩⟩,
   ⟨true, ⟨(some 3), .mov (.t 7), [3, 0, 1, 2, 3], none⟩⟩] [] 243)
 .ret))⟩
def f267 : FFn := ⟨9, [.tmp 3],
 (.seq (.region [⟨true, ⟨(some 2), .box .dyn (.t 0), [], none⟩⟩,
   ⟨true, ⟨(some 3), .mov (.c (.bool false)), [], none⟩⟩] [] 9)
 (.seq (.region [⟨true, ⟨(some 4), .load none (.t 1), [], none⟩⟩,
   ⟨true, ⟨(some 5), .faddr 2 (.t 2), [], none⟩⟩,
   ⟨true, ⟨(some 6), .load none (.t 5), [1], none⟩⟩,
   ⟨true, ⟨(some 7), .iaddr none 1 (.t 4) (.t 6), [0, 2], none⟩⟩,
   ⟨true, ⟨(some 8), .load none (.t 7), [3], none⟩⟩,
   ⟨true, ⟨(some 3), .mov (.t 8), [4, 0, 1, 2, 3, 4], none⟩⟩] [] 502)
 .ret))⟩
def f268 : FFn := ⟨35, [.tmp 4],
 (.seq (.region [⟨true, ⟨(some 4), .mov (.c (.int .i64 (.ofNat 0))), [], none⟩⟩] [] 16)
 (.seq (.seq (.region [⟨true, ⟨(some 7), .mov (.t 0), [], none⟩⟩,
   ⟨true, ⟨(some 8), .len 1 (.t 7), [0], none⟩⟩,
   ⟨true, ⟨(some 9), .mov (.c (.int .i64 (.ofNat 0))), [], none⟩⟩] [] 0)
 (.block 0 (.loop (.seq (.region [⟨true, ⟨(some 10), .bin .lss (.t 9) (.t 8), [], none⟩⟩] [] 0)
 (.seq (.cond (.t 10)
  .skip
  (.exit 0))
 (.seq (.block 1 (.seq (.region [⟨true, ⟨(some 11), .mov (.t 9), [], none⟩⟩,
   ⟨true, ⟨(some 12), .iaddr none 1 (.t 7) (.t 9), [], none⟩⟩,
   ⟨true, ⟨(some 13), .load none (.t 12), [1], none⟩⟩,
   ⟨true, ⟨(some 5), .mov (.t 11), [0, 0, 1, 2], none⟩⟩,
   ⟨true, ⟨(some 6), .mov (.t 13), [2, 3, 0, 1, 2, 3], none⟩⟩] [] 15360)
 (.block 2 (.seq (.region [⟨true, ⟨(some 15), .mov (.t 6), [], none⟩⟩,
   ⟨true, ⟨(some 16), .bin .lss (.t 15) (.c (.int .i64 (.ofNat 0))), [0], none⟩⟩,
   ⟨true, ⟨(some 17), .mov (.t 16), [1], none⟩⟩,
   ⟨false, ⟨(some 18), .mov (.t 6), [2], (some (17, false))⟩⟩,
   ⟨false, ⟨(some 19), .mov (.t 1), [2], (some (17, false))⟩⟩,
   ⟨false, ⟨(some 20), .bin .geq (.t 18) (.t 19), [3, 4, 2], (some (17, false))⟩⟩,
   ⟨true, ⟨(some 21), .pick (.t 17) (.c (.bool true)) (.t 20), [2, 5], none⟩⟩,
   ⟨true, ⟨(some 14), .mov (.t 21), [6, 2], none⟩⟩] [] 2326528)
 (.cond (.t 14)
  (.seq (.region [⟨true, ⟨(some 4), .mov (.c (.int .i64 (.ofNat 2))), [], none⟩⟩] [] 8524678115)
  .ret)
  (.seq (.region [⟨true, ⟨(some 23), .mov (.t 5), [], none⟩⟩,
    ⟨true, ⟨(some 24), .bin .gtr (.t 23) (.c (.int .i64 (.ofNat 0))), [0], none⟩⟩,
    ⟨true, ⟨(some 25), .mov (.t 24), [1], none⟩⟩,
    ⟨false, ⟨(some 26), .mov (.t 6), [2], (some (25, true))⟩⟩,
    ⟨false, ⟨(some 27), .mov (.t 0), [2], (some (25, true))⟩⟩,
    ⟨false, ⟨(some 28), .mov (.t 5), [2], (some (25, true))⟩⟩,
    ⟨false, ⟨(some 29), .bin .sub (.t 28) (.c (.int .i64 (.ofNat 1))), [5, 2], (some (25, true))⟩⟩,
    ⟨false, ⟨(some 30), .iaddr none 1 (.t 27) (.t 29), [4, 6, 2], (some (25, true))⟩⟩,
    ⟨false, ⟨(some 31), .load none (.t 30), [7, 2], (some (25, true))⟩⟩,
    ⟨false, ⟨(some 32), .bin .leq (.t 26) (.t 31), [3, 8, 2], (some (25, true))⟩⟩,
    ⟨true, ⟨(some 33), .pick (.t 25) (.t 32) (.c (.bool false)), [2, 9], none⟩⟩,
    ⟨true, ⟨(some 22), .mov (.t 33), [10, 2], none⟩⟩] [] 8648671328)
  (.cond (.t 22)
   (.seq (.region [⟨true, ⟨(some 4), .mov (.c (.int .i64 (.ofNat 5))), [], none⟩⟩] [] 8528855939)
   .ret)
   .skip)))))))
 (.region [⟨true, ⟨(some 34), .bin .add (.t 9) (.c (.int .i64 (.ofNat 1))), [], none⟩⟩,
   ⟨false, ⟨(some 9), .mov (.t 34), [0], none⟩⟩] [] 17184063504)))))))
 (.seq (.region [⟨true, ⟨(some 4), .mov (.c (.int .i64 (.ofNat 0))), [], none⟩⟩] [] 8524661635)
 .ret)))⟩
def f269 : FFn := ⟨8, [.tmp 3],
 (.seq (.region [⟨true, ⟨(some 2), .box .dyn (.t 0), [], none⟩⟩,
   ⟨true, ⟨(some 3), .mov (.c (.bool false)), [], none⟩⟩] [] 9)
 (.seq (.region [⟨true, ⟨(some 4), .faddr 1 (.t 2), [], none⟩⟩,
   ⟨true, ⟨(some 5), .load none (.t 4), [0], none⟩⟩,
   ⟨true, ⟨(some 6), .iaddr (some 32) 1 (.t 1) (.t 5), [1], none⟩⟩,
   ⟨true, ⟨(some 7), .load none (.t 6), [2], none⟩⟩,
   ⟨true, ⟨(some 3), .mov (.t 7), [3, 0, 1, 2, 3], none⟩⟩] [] 246)
 .ret))⟩
def f270 : FFn := ⟨10, [.tmp 2],
 (.seq (.region [⟨true, ⟨(some 1), .box .dyn (.t 0), [], none⟩⟩,
   ⟨true, ⟨(some 2), .mov (.c .nilsl), [], none⟩⟩] [] 5)
 (.seq (.seq (.region [⟨true, ⟨(some 3), .faddr 0 (.t 1), [], none⟩⟩,
   ⟨true, ⟨(some 4), .faddr 1 (.t 3), [0], none⟩⟩,
   ⟨true, ⟨(some 5), .load none (.t 4), [1], none⟩⟩,
   ⟨true, ⟨(some 6), .bin .eql (.t 5) (.c (.int .i64 (.ofNat 0))), [2], none⟩⟩] [] 56)
 (.cond (.t 6)
  (.seq (.region [⟨true, ⟨(some 2), .mov (.c .nilsl), [], none⟩⟩] [] 66)
  .ret)
  .skip))
 (.seq (.region [⟨true, ⟨(some 7), .load (some 5) (.t 1), [], none⟩⟩,
   ⟨true, ⟨(some 8), .bslice false .dyn 1 1 [(.int .i64 (.ofNat 0))] [(0, 1, (.c (.int .i64 (.ofNat 0))))], [], none⟩⟩,
   ⟨true, ⟨(some 9), .call .heap (.f 296) [(.t 7), (.t 8), (.f 273)], [0, 1], none⟩⟩,
   ⟨false, ⟨(some 2), .mov (.t 9), [2, 2, 0, 1, 2], none⟩⟩] [] 962)
 .ret)))⟩
def f271 : FFn := ⟨50, [.tmp 6, .tmp 7],
 (.seq (.region [⟨true, ⟨(some 3), .box .dyn (.t 0), [], none⟩⟩,
   ⟨true, ⟨(some 4), .box .dyn (.t 1), [], none⟩⟩,
   ⟨true, ⟨(some 5), .box .dyn (.t 2), [], none⟩⟩,
   ⟨true, ⟨(some 6), .mov (.c .nilsl), [], none⟩⟩,
   ⟨true, ⟨(some 7), .mov (.c (.bool false)), [3], none⟩⟩] [] 7)
 (.seq (.region [⟨true, ⟨(some 8), .alloc .dyn .nilsl, [], none⟩⟩] [] 0)
 (.seq (.region [⟨true, ⟨(some 9), .alloc .dyn (.bool false), [], none⟩⟩,
   ⟨false, ⟨none, .store 1 (.t 9) (.c (.bool false)), [0, 0], none⟩⟩] [] 0)
 (.seq (.seq (.region [⟨true, ⟨(some 13), .load (some 5) (.t 3), [], none⟩⟩,
   ⟨true, ⟨(some 14), .load none (.t 4), [], none⟩⟩,
   ⟨true, ⟨(some 15), .call .heap (.f 295) [(.t 13), (.t 14)], [0, 1], none⟩⟩] [] 24576)
 (.block 0 (.rfunc (.t 15) [16] 50 (.region [⟨true, ⟨(some 10), .alloc .dyn (.agg [(.int .i64 (.ofNat 0)), (.int .i64 (.ofNat 0)), (.int .i64 (.ofNat 0))]), [], none⟩⟩,
    ⟨false, ⟨none, .store 3 (.t 10) (.t 16), [0, 0], none⟩⟩] [] 98496)
  (.block 1 (.seq (.seq (.region [⟨true, ⟨(some 17), .load none (.t 5), [], none⟩⟩,
    ⟨true, ⟨(some 18), .load (some 3) (.t 10), [], none⟩⟩,
    ⟨true, ⟨(some 19), .call .heap (.t 17) [(.t 18)], [0, 1], none⟩⟩,
    ⟨true, ⟨(some 20), .un .not (.t 19), [2], none⟩⟩] [] 917504)
  (.cond (.t 20)
   (.exit 1)
   .skip))
  (.seq (.region [⟨true, ⟨(some 22), .load (some 5) (.t 3), [], none⟩⟩,
    ⟨true, ⟨(some 23), .faddr 2 (.t 10), [], none⟩⟩,
    ⟨true, ⟨(some 24), .load none (.t 23), [1], none⟩⟩,
    ⟨true, ⟨(some 25), .mkfn 297 [] [(.t 4)], [], none⟩⟩,
    ⟨true, ⟨(some 26), .load none (.t 5), [], none⟩⟩,
    ⟨true, ⟨(some 27), .call .heap (.f 265) [(.t 22), (.t 24), (.t 25), (.t 26)], [0, 2, 3, 4], none⟩⟩,
    ⟨true, ⟨(some 21), .mov (.t 27), [5], none⟩⟩,
    ⟨true, ⟨(some 28), .extract 0 (.t 21), [6], none⟩⟩,
    ⟨true, ⟨(some 29), .extract 1 (.t 21), [6], none⟩⟩,
    ⟨true, ⟨(some 11), .mov (.t 28), [7, 5, 0, 1, 2, 3, 4, 5, 6, 7], none⟩⟩,
    ⟨true, ⟨(some 12), .mov (.t 29), [8, 9, 0, 1, 2, 3, 4, 5, 6, 7, 8, 9], none⟩⟩] [] 1072693304)
  (.seq (.region [⟨true, ⟨(some 30), .mov (.t 12), [], none⟩⟩,
    ⟨true, ⟨(some 31), .mov (.t 30), [0], none⟩⟩,
    ⟨true, ⟨(some 32), .load none (.t 9), [1], (some (31, true))⟩⟩,
    ⟨true, ⟨(some 33), .un .not (.t 32), [2, 1], (some (31, true))⟩⟩,
    ⟨true, ⟨(some 34), .mov (.t 33), [3, 1, 1], (some (31, true))⟩⟩,
    ⟨true, ⟨(some 35), .mov (.t 11), [4], (some (34, false))⟩⟩,
    ⟨true, ⟨(some 36), .len 1 (.t 35), [5, 4], (some (34, false))⟩⟩,
    ⟨true, ⟨(some 37), .bin .add (.t 36) (.c (.int .i64 (.ofNat 1))), [6, 4], (some (34, false))⟩⟩,
    ⟨true, ⟨(some 38), .load none (.t 8), [4], (some (34, false))⟩⟩,
    ⟨true, ⟨(some 39), .len 1 (.t 38), [8, 4], (some (34, false))⟩⟩,
    ⟨true, ⟨(some 40), .bin .lss (.t 37) (.t 39), [7, 9, 4], (some (34, false))⟩⟩,
    ⟨true, ⟨(some 41), .pick (.t 34) (.c (.bool true)) (.t 40), [4, 10, 1], (some (31, true))⟩⟩,
    ⟨true, ⟨(some 42), .pick (.t 31) (.t 41) (.c (.bool false)), [1, 11], none⟩⟩] [] 4396972773376)
  (.cond (.t 42)
   (.region [⟨true, ⟨(some 43), .faddr 1 (.t 10), [], none⟩⟩,
     ⟨true, ⟨(some 44), .load none (.t 43), [0], none⟩⟩,
     ⟨true, ⟨(some 45), .bslice false .dyn 1 1 [(.int .i64 (.ofNat 0))] [(0, 1, (.t 44))], [1], none⟩⟩,
     ⟨true, ⟨(some 46), .mov (.t 11), [], none⟩⟩,
     ⟨true, ⟨(some 47), .append .dyn 1 8 (.t 45) (.t 46), [2, 3], none⟩⟩,
     ⟨false, ⟨none, .store 1 (.t 8) (.t 47), [4, 4, 0, 1, 2, 3, 4], none⟩⟩,
     ⟨false, ⟨none, .store 1 (.t 9) (.c (.bool true)), [5, 0, 1, 2, 3, 4, 5], none⟩⟩] [] 277076930203392)
   .skip))))))))
 (.seq (.region [⟨true, ⟨(some 48), .load none (.t 8), [], none⟩⟩,
   ⟨true, ⟨(some 49), .load none (.t 9), [], none⟩⟩,
   ⟨false, ⟨(some 6), .mov (.t 48), [0, 0], none⟩⟩,
   ⟨false, ⟨(some 7), .mov (.t 49), [1, 2, 0, 1, 2], none⟩⟩] [] 844424930165560)
 .ret)))))⟩
def f272 : FFn := ⟨7, [.tmp 3],
 (.seq (.region [⟨true, ⟨(some 3), .mov (.c (.bool false)), [], none⟩⟩] [] 8)
 (.seq (.region [⟨true, ⟨(some 4), .mov (.t 0), [], none⟩⟩,
   ⟨true, ⟨(some 5), .load none (.t 1), [], none⟩⟩,
   ⟨true, ⟨(some 6), .bin .eql (.t 4) (.t 5), [0, 1], none⟩⟩,
   ⟨true, ⟨(some 3), .mov (.t 6), [2, 0, 1, 2], none⟩⟩] [] 115)
 .ret))⟩
def f273 : FFn := ⟨3, [.tmp 2],
 (.seq (.region [⟨true, ⟨(some 1), .box .dyn (.t 0), [], none⟩⟩,
   ⟨true, ⟨(some 2), .mov (.c (.bool false)), [], none⟩⟩] [] 7)
 (.seq (.region [⟨true, ⟨(some 2), .mov (.c (.bool true)), [], none⟩⟩] [] 0)
 .ret))⟩
def f294 : FFn := ⟨28, [],
 (.seq (.region [⟨true, ⟨(some 4), .mov (.t 0), [], none⟩⟩,
   ⟨true, ⟨(some 5), .len 1 (.t 4), [0], none⟩⟩,
   ⟨true, ⟨(some 6), .bin .sub (.t 5) (.c (.int .i64 (.ofNat 1))), [1], none⟩⟩,
   ⟨true, ⟨(some 2), .mov (.c (.int .i64 (.ofNat 0))), [], none⟩⟩,
   ⟨true, ⟨(some 3), .mov (.t 6), [2, 3, 0, 1, 2, 3], none⟩⟩] [] 112)
 (.block 0 (.loop (.seq (.seq (.region [⟨true, ⟨(some 7), .mov (.t 2), [], none⟩⟩,
   ⟨true, ⟨(some 8), .mov (.t 3), [], none⟩⟩,
   ⟨true, ⟨(some 9), .bin .lss (.t 7) (.t 8), [0, 1], none⟩⟩] [] 384)
 (.cond (.t 9)
  .skip
  (.exit 0)))
 (.seq (.block 1 (.region [⟨true, ⟨(some 14), .mov (.t 0), [], none⟩⟩,
   ⟨true, ⟨(some 15), .mov (.t 2), [], none⟩⟩,
   ⟨true, ⟨(some 16), .mov (.t 0), [], none⟩⟩,
   ⟨true, ⟨(some 17), .mov (.t 3), [], none⟩⟩,
   ⟨true, ⟨(some 18), .mov (.t 0), [], none⟩⟩,
   ⟨true, ⟨(some 19), .mov (.t 3), [], none⟩⟩,
   ⟨true, ⟨(some 20), .iaddr none 1 (.t 18) (.t 19), [4, 5], none⟩⟩,
   ⟨true, ⟨(some 21), .load none (.t 20), [6], none⟩⟩,
   ⟨true, ⟨(some 22), .mov (.t 0), [], none⟩⟩,
   ⟨true, ⟨(some 23), .mov (.t 2), [], none⟩⟩,
   ⟨true, ⟨(some 24), .iaddr none 1 (.t 22) (.t 23), [8, 9], none⟩⟩,
   ⟨true, ⟨(some 25), .load none (.t 24), [10], none⟩⟩,
   ⟨true, ⟨(some 26), .iaddr none 1 (.t 14) (.t 15), [0, 1, 0, 1, 4, 5, 6, 7, 11], none⟩⟩,
   ⟨false, ⟨none, .store 1 (.t 26) (.t 21), [12, 7, 0, 1, 4, 5, 6, 7, 11], none⟩⟩,
   ⟨true, ⟨(some 27), .iaddr none 1 (.t 16) (.t 17), [2, 3, 0, 1, 2, 3, 4, 5, 6, 7, 8, 9, 10, 11, 12, 13], none⟩⟩,
   ⟨false, ⟨none, .store 1 (.t 27) (.t 25), [14, 11, 13, 0, 1, 2, 3, 4, 5, 6, 7, 8, 9, 10, 11, 12, 13], none⟩⟩] [] 268419584))
 (.region [⟨true, ⟨(some 10), .mov (.t 2), [], none⟩⟩,
   ⟨true, ⟨(some 11), .bin .add (.t 10) (.c (.int .i64 (.ofNat 1))), [0], none⟩⟩,
   ⟨true, ⟨(some 12), .mov (.t 3), [], none⟩⟩,
   ⟨true, ⟨(some 13), .bin .sub (.t 12) (.c (.int .i64 (.ofNat 1))), [2], none⟩⟩,
   ⟨false, ⟨(some 2), .mov (.t 11), [1, 0, 1], none⟩⟩,
   ⟨false, ⟨(some 3), .mov (.t 13), [3, 4, 0, 1, 2, 3, 4], none⟩⟩] [] 15360))))))⟩
def f295 : FFn := ⟨6, [.tmp 4],
 (.seq (.region [⟨true, ⟨(some 2), .box .dyn (.t 0), [], none⟩⟩,
   ⟨true, ⟨(some 3), .box .dyn (.t 1), [], none⟩⟩,
   ⟨true, ⟨(some 4), .mov (.c .nilfn), [], none⟩⟩] [] 19)
 (.seq (.region [⟨true, ⟨(some 5), .mkfn 305 [] [(.t 2), (.t 3)], [], none⟩⟩,
   ⟨true, ⟨(some 4), .mov (.t 5), [0, 0], none⟩⟩] [] 44)
 .ret))⟩
def f296 : FFn := ⟨50, [.tmp 6],
 (.seq (.region [⟨true, ⟨(some 3), .box .dyn (.t 0), [], none⟩⟩,
   ⟨true, ⟨(some 5), .box .dyn (.t 2), [], none⟩⟩,
   ⟨true, ⟨(some 6), .mov (.c .nilsl), [], none⟩⟩] [] 5)
 (.seq (.region [⟨true, ⟨(some 11), .faddr 0 (.t 3), [], none⟩⟩,
   ⟨true, ⟨(some 12), .load (some 4) (.t 11), [0], none⟩⟩,
   ⟨true, ⟨(some 13), .mov (.t 1), [], none⟩⟩,
   ⟨true, ⟨(some 14), .call .heap (.f 264) [(.t 12), (.t 13)], [1, 2], none⟩⟩,
   ⟨true, ⟨(some 7), .alloc .dyn .nilsl, [], none⟩⟩,
   ⟨false, ⟨none, .store 1 (.t 7) (.t 14), [4, 3, 3, 0, 1, 2, 3, 4], none⟩⟩] [] 30720)
 (.seq (.region [⟨true, ⟨(some 15), .mov (.t 1), [], none⟩⟩,
   ⟨true, ⟨(some 16), .call .heap (.f 76) [(.t 15)], [0], none⟩⟩,
   ⟨true, ⟨(some 8), .alloc .dyn .nilsl, [], none⟩⟩,
   ⟨false, ⟨none, .store 1 (.t 8) (.t 16), [2, 1, 1, 0, 1, 2], none⟩⟩] [] 98306)
 (.seq (.block 0 (.loop (.seq (.seq (.region [⟨true, ⟨(some 17), .load none (.t 8), [], none⟩⟩,
   ⟨true, ⟨(some 18), .len 1 (.t 17), [0], none⟩⟩,
   ⟨true, ⟨(some 19), .bin .gtr (.t 18) (.c (.int .i64 (.ofNat 0))), [1], none⟩⟩] [] 393216)
 (.cond (.t 19)
  .skip
  (.exit 0)))
 (.block 1 (.seq (.region [⟨true, ⟨(some 20), .load none (.t 8), [], none⟩⟩,
   ⟨true, ⟨(some 21), .iaddr none 1 (.t 20) (.c (.int .i64 (.ofNat 0))), [0], none⟩⟩,
   ⟨true, ⟨(some 22), .load none (.t 21), [1], none⟩⟩,
   ⟨true, ⟨(some 9), .mov (.t 22), [2, 0, 1, 2], none⟩⟩] [] 7864320)
 (.seq (.region [⟨true, ⟨(some 23), .load none (.t 8), [], none⟩⟩,
   ⟨true, ⟨(some 24), .slice (some 1) (.t 23) (some (.c (.int .i64 (.ofNat 1)))) none none, [0], none⟩⟩,
   ⟨false, ⟨none, .store 1 (.t 8) (.t 24), [1, 0, 1], none⟩⟩] [] 25165824)
 (.seq (.region [⟨true, ⟨(some 25), .load (some 5) (.t 3), [], none⟩⟩,
   ⟨true, ⟨(some 26), .mov (.t 9), [], none⟩⟩,
   ⟨true, ⟨(some 27), .call .heap (.f 295) [(.t 25), (.t 26)], [0, 1], none⟩⟩] [] 100663808)
 (.block 2 (.rfunc (.t 27) [28] 50 (.region [⟨true, ⟨(some 10), .alloc .dyn (.agg [(.int .i64 (.ofNat 0)), (.int .i64 (.ofNat 0)), (.int .i64 (.ofNat 0))]), [], none⟩⟩,
    ⟨false, ⟨none, .store 3 (.t 10) (.t 28), [0, 0], none⟩⟩] [] 402653256)
  (.block 3 (.seq (.region [⟨true, ⟨(some 29), .load none (.t 7), [], none⟩⟩,
    ⟨true, ⟨(some 30), .faddr 2 (.t 10), [], none⟩⟩,
    ⟨true, ⟨(some 31), .load none (.t 30), [1], none⟩⟩,
    ⟨true, ⟨(some 32), .iaddr none 1 (.t 29) (.t 31), [0, 2], none⟩⟩,
    ⟨true, ⟨(some 33), .load none (.t 32), [3], none⟩⟩,
    ⟨true, ⟨(some 34), .un .not (.t 33), [4], none⟩⟩,
    ⟨true, ⟨(some 35), .mov (.t 34), [5], none⟩⟩,
    ⟨false, ⟨(some 36), .load none (.t 5), [6], (some (35, true))⟩⟩,
    ⟨false, ⟨(some 37), .load (some 3) (.t 10), [6], (some (35, true))⟩⟩,
    ⟨false, ⟨(some 38), .call .heap (.t 36) [(.t 37)], [7, 8, 6, 6], (some (35, true))⟩⟩,
    ⟨true, ⟨(some 39), .pick (.t 35) (.t 38) (.c (.bool false)), [6, 9], none⟩⟩] [] 549218943008)
  (.cond (.t 39)
   (.seq (.region [⟨true, ⟨(some 40), .load none (.t 7), [], none⟩⟩,
     ⟨true, ⟨(some 41), .faddr 2 (.t 10), [], none⟩⟩,
     ⟨true, ⟨(some 42), .load none (.t 41), [1], none⟩⟩,
     ⟨true, ⟨(some 43), .iaddr none 1 (.t 40) (.t 42), [0, 2, 0, 1, 2], none⟩⟩,
     ⟨false, ⟨none, .store 1 (.t 43) (.c (.bool true)), [3, 0, 1, 2], none⟩⟩] [] 17042430230656)
   (.region [⟨true, ⟨(some 44), .load none (.t 8), [], none⟩⟩,
     ⟨true, ⟨(some 45), .faddr 2 (.t 10), [], none⟩⟩,
     ⟨true, ⟨(some 46), .load none (.t 45), [1], none⟩⟩,
     ⟨true, ⟨(some 47), .bslice false .dyn 1 1 [(.int .i64 (.ofNat 0))] [(0, 1, (.t 46))], [2], none⟩⟩,
     ⟨true, ⟨(some 48), .append .dyn 1 8 (.t 44) (.t 47), [0, 3], none⟩⟩,
     ⟨false, ⟨none, .store 1 (.t 8) (.t 48), [4, 4, 0, 1, 2, 3, 4], none⟩⟩] [] 545357767378176))
   .skip))))))))))))
 (.seq (.region [⟨true, ⟨(some 49), .load none (.t 7), [], none⟩⟩,
   ⟨false, ⟨(some 6), .mov (.t 49), [0, 0], none⟩⟩] [] 563430989758888)
 .ret)))))⟩
def f297 : FFn := ⟨7, [.tmp 3],
 (.seq (.region [⟨true, ⟨(some 3), .mov (.c (.bool false)), [], none⟩⟩] [] 8)
 (.seq (.region [⟨true, ⟨(some 4), .mov (.t 0), [], none⟩⟩,
   ⟨true, ⟨(some 5), .load none (.t 1), [], none⟩⟩,
   ⟨true, ⟨(some 6), .bin .eql (.t 4) (.t 5), [0, 1], none⟩⟩,
   ⟨true, ⟨(some 3), .mov (.t 6), [2, 0, 1, 2], none⟩⟩] [] 115)
 .ret))⟩
def f305 : FFn := ⟨31, [],
 (.seq (.region [⟨true, ⟨(some 6), .faddr 0 (.t 1), [], none⟩⟩,
   ⟨true, ⟨(some 7), .faddr 3 (.t 6), [0], none⟩⟩,
   ⟨true, ⟨(some 8), .load none (.t 7), [1], none⟩⟩,
   ⟨true, ⟨(some 9), .faddr 4 (.t 1), [], none⟩⟩,
   ⟨true, ⟨(some 10), .load none (.t 9), [3], none⟩⟩,
   ⟨true, ⟨(some 11), .load none (.t 2), [], none⟩⟩,
   ⟨true, ⟨(some 12), .iaddr none 1 (.t 10) (.t 11), [4, 5], none⟩⟩,
   ⟨true, ⟨(some 13), .load none (.t 12), [6], none⟩⟩,
   ⟨true, ⟨(some 14), .faddr 4 (.t 1), [], none⟩⟩,
   ⟨true, ⟨(some 15), .load none (.t 14), [8], none⟩⟩,
   ⟨true, ⟨(some 16), .load none (.t 2), [], none⟩⟩,
   ⟨true, ⟨(some 17), .bin .add (.t 16) (.c (.int .i64 (.ofNat 1))), [10], none⟩⟩,
   ⟨true, ⟨(some 18), .iaddr none 1 (.t 15) (.t 17), [9, 11], none⟩⟩,
   ⟨true, ⟨(some 19), .load none (.t 18), [12], none⟩⟩,
   ⟨true, ⟨(some 20), .slice (some 3) (.t 8) (some (.t 13)) (some (.t 19)) none, [2, 7, 13], none⟩⟩,
   ⟨true, ⟨(some 21), .len 1 (.t 20), [14], none⟩⟩,
   ⟨true, ⟨(some 22), .mov (.c (.int .i64 (.ofNat 0))), [], none⟩⟩] [] 1048518)
 (.block 0 (.loop (.seq (.region [⟨true, ⟨(some 23), .bin .lss (.t 22) (.t 21), [], none⟩⟩] [] 0)
 (.seq (.cond (.t 23)
  .skip
  (.exit 0))
 (.seq (.block 1 (.seq (.region [⟨true, ⟨(some 24), .iaddr none 3 (.t 20) (.t 22), [], none⟩⟩,
   ⟨true, ⟨(some 25), .load (some 3) (.t 24), [0], none⟩⟩,
   ⟨true, ⟨(some 5), .alloc .dyn (.agg [(.int .i64 (.ofNat 0)), (.int .i64 (.ofNat 0)), (.int .i64 (.ofNat 0))]), [], none⟩⟩,
   ⟨false, ⟨none, .store 3 (.t 5) (.t 25), [2, 1, 0, 1, 2], none⟩⟩] [] 58720256)
 (.seq (.region [⟨true, ⟨(some 26), .mov (.t 0), [], none⟩⟩,
   ⟨true, ⟨(some 27), .load (some 3) (.t 5), [], none⟩⟩,
   ⟨true, ⟨(some 28), .call .heap (.t 26) [(.t 27)], [0, 1], none⟩⟩,
   ⟨true, ⟨(some 29), .un .not (.t 28), [2], none⟩⟩] [] 469762080)
 (.cond (.t 29)
  .ret
  .skip))))
 (.region [⟨true, ⟨(some 30), .bin .add (.t 22) (.c (.int .i64 (.ofNat 1))), [], none⟩⟩,
   ⟨false, ⟨(some 22), .mov (.t 30), [0], none⟩⟩] [] 1610612736)))))))⟩
end Go.AM.IP
set_option maxRecDepth 100000
namespace Go.AM.IP
open Go.Proofs
def ft : FT2 := (.n 159 (.n 76 (.n 36 (.n 17 (.n 11 (.n 9 (.l 4 f4) (.l 9 f9)) (.n 15 (.l 11 f11) (.n 16 (.l 15 f15) (.l 16 f16)))) (.n 32 (.n 18 (.l 17 f17) (.n 31 (.l 18 f18) (.l 31 f31))) (.n 34 (.l 32 f32) (.n 35 (.l 34 f34) (.l 35 f35))))) (.n 59 (.n 38 (.n 37 (.l 36 f36) (.l 37 f37)) (.n 39 (.l 38 f38) (.n 54 (.l 39 f39) (.l 54 f54)))) (.n 62 (.n 60 (.l 59 f59) (.n 61 (.l 60 f60) (.l 61 f61))) (.n 63 (.l 62 f62) (.n 67 (.l 63 f63) (.l 67 f67)))))) (.n 113 (.n 92 (.n 89 (.n 88 (.l 76 f76) (.l 88 f88)) (.n 90 (.l 89 f89) (.n 91 (.l 90 f90) (.l 91 f91)))) (.n 110 (.n 96 (.l 92 f92) (.n 98 (.l 96 f96) (.l 98 f98))) (.n 111 (.l 110 f110) (.n 112 (.l 111 f111) (.l 112 f112))))) (.n 119 (.n 116 (.n 114 (.l 113 f113) (.n 115 (.l 114 f114) (.l 115 f115))) (.n 117 (.l 116 f116) (.n 118 (.l 117 f117) (.l 118 f118)))) (.n 144 (.n 132 (.l 119 f119) (.n 133 (.l 132 f132) (.l 133 f133))) (.n 156 (.l 144 f144) (.n 157 (.l 156 f156) (.l 157 f157))))))) (.n 239 (.n 192 (.n 169 (.n 163 (.n 162 (.l 159 f159) (.l 162 f162)) (.n 164 (.l 163 f163) (.n 165 (.l 164 f164) (.l 165 f165)))) (.n 181 (.n 173 (.l 169 f169) (.n 180 (.l 173 f173) (.l 180 f180))) (.n 182 (.l 181 f181) (.n 191 (.l 182 f182) (.l 191 f191))))) (.n 219 (.n 212 (.n 205 (.l 192 f192) (.n 206 (.l 205 f205) (.l 206 f206))) (.n 217 (.l 212 f212) (.n 218 (.l 217 f217) (.l 218 f218)))) (.n 230 (.n 220 (.l 219 f219) (.n 221 (.l 220 f220) (.l 221 f221))) (.n 231 (.l 230 f230) (.n 232 (.l 231 f231) (.l 232 f232)))))) (.n 267 (.n 261 (.n 241 (.n 240 (.l 239 f239) (.l 240 f240)) (.n 252 (.l 241 f241) (.n 259 (.l 252 f252) (.l 259 f259)))) (.n 264 (.n 262 (.l 261 f261) (.n 263 (.l 262 f262) (.l 263 f263))) (.n 265 (.l 264 f264) (.n 266 (.l 265 f265) (.l 266 f266))))) (.n 273 (.n 270 (.n 268 (.l 267 f267) (.n 269 (.l 268 f268) (.l 269 f269))) (.n 271 (.l 270 f270) (.n 272 (.l 271 f271) (.l 272 f272)))) (.n 296 (.n 294 (.l 273 f273) (.n 295 (.l 294 f294) (.l 295 f295))) (.n 297 (.l 296 f296) (.n 305 (.l 297 f297) (.l 305 f305))))))))
theorem okf4 : okFn Tryz.prog 4 f4.slim = true := by kernel_rfl
theorem okf9 : okFn Tryz.prog 9 f9.slim = true := by kernel_rfl
theorem okf11 : okFn Tryz.prog 11 f11.slim = true := by kernel_rfl
theorem okf15 : okFn Tryz.prog 15 f15.slim = true := by kernel_rfl
theorem okf16 : okFn Tryz.prog 16 f16.slim = true := by kernel_rfl
theorem okf17 : okFn Tryz.prog 17 f17.slim = true := by kernel_rfl
theorem okf18 : okFn Tryz.prog 18 f18.slim = true := by kernel_rfl
theorem okf31 : okFn Tryz.prog 31 f31.slim = true := by kernel_rfl
theorem okf32 : okFn Tryz.prog 32 f32.slim = true := by kernel_rfl
theorem okf34 : okFn Tryz.prog 34 f34.slim = true := by kernel_rfl
theorem okf35 : okFn Tryz.prog 35 f35.slim = true := by kernel_rfl
theorem okf36 : okFn Tryz.prog 36 f36.slim = true := by kernel_rfl
theorem okf37 : okFn Tryz.prog 37 f37.slim = true := by kernel_rfl
theorem okf38 : okFn Tryz.prog 38 f38.slim = true := by kernel_rfl
theorem okf39 : okFn Tryz.prog 39 f39.slim = true := by kernel_rfl
theorem okf54 : okFn Tryz.prog 54 f54.slim = true := by kernel_rfl
theorem okf59 : okFn Tryz.prog 59 f59.slim = true := by kernel_rfl
theorem okf60 : okFn Tryz.prog 60 f60.slim = true := by kernel_rfl
theorem okf61 : okFn Tryz.prog 61 f61.slim = true := by kernel_rfl
theorem okf62 : okFn Tryz.prog 62 f62.slim = true := by kernel_rfl
theorem okf63 : okFn Tryz.prog 63 f63.slim = true := by kernel_rfl
theorem okf67 : okFn Tryz.prog 67 f67.slim = true := by kernel_rfl
theorem okf76 : okFn Tryz.prog 76 f76.slim = true := by kernel_rfl
theorem okf88 : okFn Tryz.prog 88 f88.slim = true := by kernel_rfl
theorem okf89 : okFn Tryz.prog 89 f89.slim = true := by kernel_rfl
theorem okf90 : okFn Tryz.prog 90 f90.slim = true := by kernel_rfl
theorem okf91 : okFn Tryz.prog 91 f91.slim = true := by kernel_rfl
theorem okf92 : okFn Tryz.prog 92 f92.slim = true := by kernel_rfl
theorem okf96 : okFn Tryz.prog 96 f96.slim = true := by kernel_rfl
theorem okf98 : okFn Tryz.prog 98 f98.slim = true := by kernel_rfl
theorem okf110 : okFn Tryz.prog 110 f110.slim = true := by kernel_rfl
theorem okf111 : okFn Tryz.prog 111 f111.slim = true := by kernel_rfl
theorem okf112 : okFn Tryz.prog 112 f112.slim = true := by kernel_rfl
theorem okf113 : okFn Tryz.prog 113 f113.slim = true := by kernel_rfl
theorem okf114 : okFn Tryz.prog 114 f114.slim = true := by kernel_rfl
theorem okf115 : okFn Tryz.prog 115 f115.slim = true := by kernel_rfl
theorem okf116 : okFn Tryz.prog 116 f116.slim = true := by kernel_rfl
theorem okf117 : okFn Tryz.prog 117 f117.slim = true := by kernel_rfl
theorem okf118 : okFn Tryz.prog 118 f118.slim = true := by kernel_rfl
theorem okf119 : okFn Tryz.prog 119 f119.slim = true := by kernel_rfl
theorem okf132 : okFn Tryz.prog 132 f132.slim = true := by kernel_rfl
theorem okf133 : okFn Tryz.prog 133 f133.slim = true := by kernel_rfl
theorem okf144 : okFn Tryz.prog 144 f144.slim = true := by kernel_rfl
theorem okf156 : okFn Tryz.prog 156 f156.slim = true := by kernel_rfl
theorem okf157 : okFn Tryz.prog 157 f157.slim = true := by kernel_rfl
theorem okf159 : okFn Tryz.prog 159 f159.slim = true := by kernel_rfl
theorem okf162 : okFn Tryz.prog 162 f162.slim = true := by kernel_rfl
theorem okf163 : okFn Tryz.prog 163 f163.slim = true := by kernel_rfl
theorem okf164 : okFn Tryz.prog 164 f164.slim = true := by kernel_rfl
theorem okf165 : okFn Tryz.prog 165 f165.slim = true := by kernel_rfl
theorem okf169 : okFn Tryz.prog 169 f169.slim = true := by kernel_rfl
theorem okf173 : okFn Tryz.prog 173 f173.slim = true := by kernel_rfl
theorem okf180 : okFn Tryz.prog 180 f180.slim = true := by kernel_rfl
theorem okf181 : okFn Tryz.prog 181 f181.slim = true := by kernel_rfl
theorem okf182 : okFn Tryz.prog 182 f182.slim = true := by kernel_rfl
theorem okf191 : okFn Tryz.prog 191 f191.slim = true := by kernel_rfl
theorem okf192 : okFn Tryz.prog 192 f192.slim = true := by kernel_rfl
theorem okf205 : okFn Tryz.prog 205 f205.slim = true := by kernel_rfl
theorem okf206 : okFn Tryz.prog 206 f206.slim = true := by kernel_rfl
theorem okf212 : okFn Tryz.prog 212 f212.slim = true := by kernel_rfl
theorem okf217 : okFn Tryz.prog 217 f217.slim = true := by kernel_rfl
theorem okf218 : okFn Tryz.prog 218 f218.slim = true := by kernel_rfl
theorem okf219 : okFn Tryz.prog 219 f219.slim = true := by kernel_rfl
theorem okf220 : okFn Tryz.prog 220 f220.slim = true := by kernel_rfl
theorem okf221 : okFn Tryz.prog 221 f221.slim = true := by kernel_rfl
theorem okf230 : okFn Tryz.prog 230 f230.slim = true := by kernel_rfl
theorem okf231 : okFn Tryz.prog 231 f231.slim = true := by kernel_rfl
theorem okf232 : okFn Tryz.prog 232 f232.slim = true := by kernel_rfl
theorem okf239 : okFn Tryz.prog 239 f239.slim = true := by kernel_rfl
theorem okf240 : okFn Tryz.prog 240 f240.slim = true := by kernel_rfl
theorem okf241 : okFn Tryz.prog 241 f241.slim = true := by kernel_rfl
theorem okf252 : okFn Tryz.prog 252 f252.slim = true := by kernel_rfl
theorem okf259 : okFn Tryz.prog 259 f259.slim = true := by kernel_rfl
theorem okf261 : okFn Tryz.prog 261 f261.slim = true := by kernel_rfl
theorem okf262 : okFn Tryz.prog 262 f262.slim = true := by kernel_rfl
theorem okf263 : okFn Tryz.prog 263 f263.slim = true := by kernel_rfl
theorem okf264 : okFn Tryz.prog 264 f264.slim = true := by kernel_rfl
theorem okf265 : okFn Tryz.prog 265 f265.slim = true := by kernel_rfl
theorem okf266 : okFn Tryz.prog 266 f266.slim = true := by kernel_rfl
theorem okf267 : okFn Tryz.prog 267 f267.slim = true := by kernel_rfl
theorem okf268 : okFn Tryz.prog 268 f268.slim = true := by kernel_rfl
theorem okf269 : okFn Tryz.prog 269 f269.slim = true := by kernel_rfl
theorem okf270 : okFn Tryz.prog 270 f270.slim = true := by kernel_rfl
theorem okf271 : okFn Tryz.prog 271 f271.slim = true := by kernel_rfl
theorem okf272 : okFn Tryz.prog 272 f272.slim = true := by kernel_rfl
theorem okf273 : okFn Tryz.prog 273 f273.slim = true := by kernel_rfl
theorem okf294 : okFn Tryz.prog 294 f294.slim = true := by kernel_rfl
theorem okf295 : okFn Tryz.prog 295 f295.slim = true := by kernel_rfl
theorem okf296 : okFn Tryz.prog 296 f296.slim = true := by kernel_rfl
theorem okf297 : okFn Tryz.prog 297 f297.slim = true := by kernel_rfl
theorem okf305 : okFn Tryz.prog 305 f305.slim = true := by kernel_rfl
theorem ft_ok : ft.OK Tryz.prog := ⟨⟨⟨⟨⟨⟨okf4, okf9⟩, ⟨okf11, ⟨okf15, okf16⟩⟩⟩, ⟨⟨okf17, ⟨okf18, okf31⟩⟩, ⟨okf32, ⟨okf34, okf35⟩⟩⟩⟩, ⟨⟨⟨okf36, okf37⟩, ⟨okf38, ⟨okf39, okf54⟩⟩⟩, ⟨⟨okf59, ⟨okf60, okf61⟩⟩, ⟨okf62, ⟨okf63, okf67⟩⟩⟩⟩⟩, ⟨⟨⟨⟨okf76, okf88⟩, ⟨okf89, ⟨okf90, okf91⟩⟩⟩, ⟨⟨okf92, ⟨okf96, okf98⟩⟩, ⟨okf110, ⟨okf111, okf112⟩⟩⟩⟩, ⟨⟨⟨okf113, ⟨okf114, okf115⟩⟩, ⟨okf116, ⟨okf117, okf118⟩⟩⟩, ⟨⟨okf119, ⟨okf132, okf133⟩⟩, ⟨okf144, ⟨okf156, okf157⟩⟩⟩⟩⟩⟩, ⟨⟨⟨⟨⟨okf159, okf162⟩, ⟨okf163, ⟨okf164, okf165⟩⟩⟩, ⟨⟨okf169, ⟨okf173, okf180⟩⟩, ⟨okf181, ⟨okf182, okf191⟩⟩⟩⟩, ⟨⟨⟨okf192, ⟨okf205, okf206⟩⟩, ⟨okf212, ⟨okf217, okf218⟩⟩⟩, ⟨⟨okf219, ⟨okf220, okf221⟩⟩, ⟨okf230, ⟨okf231, okf232⟩⟩⟩⟩⟩, ⟨⟨⟨⟨okf239, okf240⟩, ⟨okf241, ⟨okf252, okf259⟩⟩⟩, ⟨⟨okf261, ⟨okf262, okf263⟩⟩, ⟨okf264, ⟨okf265, okf266⟩⟩⟩⟩, ⟨⟨⟨okf267, ⟨okf268, okf269⟩⟩, ⟨okf270, ⟨okf271, okf272⟩⟩⟩, ⟨⟨okf273, ⟨okf294, okf295⟩⟩, ⟨okf296, ⟨okf297, okf305⟩⟩⟩⟩⟩⟩⟩
end Go.AM.IP
set_option linter.unusedSimpArgs false
set_option linter.unusedVariables false
namespace Go.AM
variable {P : Program}
section
variable {N : NM} {n : Nat} {d : Option Nat} {af dead : List Nat} {r : List SOper} {T : Tmps} {h : Heap} {Q : QC} {fs : List Fr}
theorem get_same {k : Nat} {x : Blk} (hk : k < 1099511627775) : (h.set k x).get k = some x := by rw [Tr.get_set h hk]; simp
theorem get_ne {j k : Nat} {x : Blk} (hk : k < 1099511627775) (hj : j ≠ k) : (h.set k x).get j = h.get j := by rw [Tr.get_set h hk]; simp [hj]
end
def Fresh (n : Nat) (h : Heap) : Prop := ∀ b, n ≤ b → h.get b = none
theorem Fresh.e {n : Nat} : Fresh n .e := fun b _ => by simp [Tr.get]
theorem Fresh.set {n k : Nat} {h : Heap} {x : Blk} (hf : Fresh n h) (hk : k < 1099511627775) (hl : k < n) : Fresh n (h.set k x) := fun b hb => by
  rw [get_ne hk (by omega)]; exact hf b hb
end Go.AM
set_option linter.unusedSimpArgs false
set_option linter.unusedVariables false
namespace Go.AM
variable {P : Program}
def FrzTo (h : Heap) (x y : AV) : Prop := ∀ (ok : Okc) (c : Ctx ok) (w : World) (v : Value), HRel c h w → VRel c w x v → VRel (lent c) w y v
def FrzL (h : Heap) : List AV → List AV → Prop
  | [], [] => True
  | x :: xs, y :: ys => FrzTo h x y ∧ FrzL h xs ys
  | _, _ => False
variable {h : Heap}
theorem FrzTo.same (x : AV) : FrzTo h x x := fun _ c w v _ hv => VRel.mono (lent_ext c w) _ _ hv
theorem FrzL.same : ∀ (xs : List AV), FrzL h xs xs
  | [] => trivial
  | x :: xs => ⟨.same x, FrzL.same xs⟩
theorem FrzL.length : ∀ {xs ys : List AV}, FrzL h xs ys → ys.length = xs.length
  | [], [], _ => rfl
  | [], _ :: _, hh => hh.elim
  | _ :: _, [], hh => hh.elim
  | x :: xs, y :: ys, hh => by simp [FrzL.length hh.2]
theorem FrzL.append : ∀ {xs ys us vs : List AV}, FrzL h xs ys → FrzL h us vs → FrzL h (xs ++ us) (ys ++ vs)
  | [], [], _, _, _, h2 => h2
  | [], _ :: _, _, _, hh, _ => hh.elim
  | _ :: _, [], _, _, hh, _ => hh.elim
  | x :: xs, y :: ys, _, _, hh, h2 => ⟨hh.1, FrzL.append hh.2 h2⟩
theorem FrzL.pre {ok : Okc} {c : Ctx ok} {w : World} (H : HRel c h w) : ∀ {xs ys : List AV} {vs : List Value}, FrzL h xs ys → VPre c w xs vs → VPre (lent c) w ys vs
  | [], [], _, _, _ => by simp [VPre]
  | [], _ :: _, _, hh, _ => hh.elim
  | _ :: _, [], _, hh, _ => hh.elim
  | x :: xs, y :: ys, vs, hh, hv => by
    simp only [VPre] at hv ⊢
    obtain ⟨v, vs', rfl, g1, g2⟩ := hv
    exact ⟨v, vs', rfl, hh.1 _ c w v H g1, FrzL.pre H hh.2 g2⟩
theorem FrzL.rels {ok : Okc} {c : Ctx ok} {w : World} (H : HRel c h w) : ∀ {xs ys : List AV} {vs : List Value}, FrzL h xs ys → VRels c w xs vs → VRels (lent c) w ys vs
  | [], [], _, _, hv => by simpa [VRels] using hv
  | [], _ :: _, _, hh, _ => hh.elim
  | _ :: _, [], _, hh, _ => hh.elim
  | x :: xs, y :: ys, vs, hh, hv => by
    simp only [VRels] at hv ⊢
    obtain ⟨v, vs', rfl, g1, g2⟩ := hv
    exact ⟨v, vs', rfl, hh.1 _ c w v H g1, FrzL.rels H hh.2 g2⟩
theorem FrzTo.nil {sz : Nat} : FrzTo h .nilsl (.fsl [] 0 sz) := fun _ c w v _ hv => by
  simp only [VRel] at hv ⊢
  exact .inl ⟨⟨none, hv⟩, by simp⟩
theorem FrzTo.agg {xs ys : List AV} (hL : FrzL h xs ys) : FrzTo h (.agg xs) (.agg ys) := fun _ c w v H hv => by
  simp only [VRel] at hv ⊢
  obtain ⟨vs, rfl, hv⟩ := hv
  exact ⟨vs, rfl, hL.rels H hv⟩
theorem FrzTo.tup {xs ys : List AV} (hL : FrzL h xs ys) : FrzTo h (.tup xs) (.tup ys) := fun _ c w v H hv => by
  simp only [VRel] at hv ⊢
  obtain ⟨vs, rfl, hv⟩ := hv
  exact ⟨vs, rfl, hL.rels H hv⟩
theorem FrzTo.sl {b g off len sz : Nat} {cs ys : List AV} (hb : h.get b = some (.cells g cs)) (hl : off + len * sz ≤ cs.length) (hL : FrzL h ((cs.drop off).take (len * sz)) ys) :
    FrzTo h (.sl b g off len sz) (.fsl ys len sz) := fun _ c w v H hv => by
  have hlen := hL.length
  simp only [VRel] at hv
  rcases hv with ⟨hp, rfl, rfl, rfl⟩ | ⟨cb, base, o, cap, C, e, fr, hp, rfl, hlc, hC, hcap⟩
  · have hys : ys = [] := by
      apply List.eq_nil_of_length_eq_zero
      rw [hlen]; simp
    subst hys
    simp only [VRel]; exact .inl (by simp)
  · obtain ⟨C', e', fr', hO, hC', hfr, hbs, hpre⟩ := H.here hb hp
    rw [hC] at hC'; cases hC'
    by_cases h0 : cap = 0
    · have hl0 : len = 0 := by omega
      subst hl0
      have hys : ys = [] := by
        apply List.eq_nil_of_length_eq_zero
        rw [hlen]; simp
      subst hys
      simp only [VRel]
      exact .inr ⟨cb, o, cap, C, e, fr, rfl, hlc, by simp, .inr hO, hC, by simp [VPre]⟩
    · obtain ⟨rfl, hbd⟩ := hcap.resolve_left h0
      have hp2 := VPre_take (len * sz) (VPre_drop off hpre)
      rw [List.drop_drop] at hp2
      simp only [VRel]
      exact .inr ⟨cb, base + off, cap, C, e, fr, rfl, hlc, by rw [hlen]; simp; omega, .inr hO, hC, hL.pre H hp2⟩
def Row (h : Heap) (ok : Nat → Prop) (v : AV) (cs : List AV) (len sz : Nat) : Prop :=
  (v = .nilsl ∧ cs = [] ∧ len = 0) ∨ ∃ b g, v = .sl b g 0 len sz ∧ h.get b = some (.cells g cs) ∧ cs.length = len * sz ∧ ok b
theorem Row.nil {ok : Nat → Prop} {sz : Nat} : Row h ok .nilsl [] 0 sz := .inl ⟨rfl, rfl, rfl⟩
theorem Row.keep {h h' : Heap} {ok ok' : Nat → Prop} {v : AV} {cs : List AV} {len sz : Nat} (hr : Row h ok v cs len sz) (hk : ∀ b, ok b → h.get b ≠ none → h'.get b = h.get b ∧ ok' b) : Row h' ok' v cs len sz := by
  rcases hr with hr | ⟨b, g, h1, h2, h3, h4⟩
  · exact .inl hr
  · obtain ⟨k1, k2⟩ := hk b h4 (by rw [h2]; simp)
    exact .inr ⟨b, g, h1, by rw [k1]; exact h2, h3, k2⟩
theorem Row.frz {ok : Nat → Prop} {v : AV} {cs ys : List AV} {len sz : Nat} (hr : Row h ok v cs len sz) (hL : FrzL h cs ys) : FrzTo h v (.fsl ys len sz) := by
  rcases hr with ⟨rfl, rfl, rfl⟩ | ⟨b, g, rfl, h2, h3, h4⟩
  · cases ys with
    | nil => exact FrzTo.nil
    | cons y ys => exact hL.elim
  · refine FrzTo.sl h2 (by omega) ?_
    rw [List.drop_zero, ← h3, List.take_length]; exact hL
theorem Row.len {ok : Nat → Prop} {v : AV} {cs : List AV} {len sz : Nat} (hr : Row h ok v cs len sz) : cs.length = len * sz := by
  rcases hr with ⟨_, rfl, rfl⟩ | ⟨_, _, _, _, h3, _⟩
  · simp
  · exact h3
section
variable {N : NM} {n : Nat} {d : Option Nat} {af dead : List Nat} {r : List SOper} {T : Tmps} {Q : QC} {fs : List Fr}
end
end Go.AM
set_option linter.unusedSimpArgs false
set_option linter.unusedVariables false
namespace Go.AM
variable {P : Program}
def blkOf : AV → Option Nat
  | .sl b _ _ _ _ => some b
  | _ => none
structure Mat (h : Heap) (n lo : Nat) (v : AV) (rows : List AV) (L : List (List Int)) : Prop where
  len : rows.length = L.length
  out : Row h (fun b => blkOf v = some b ∧ lo < b ∧ b < n) v rows rows.length 1
  row : ∀ (j : Nat) (r : AV) (l : List Int), rows[j]? = some r → L[j]? = some l → Row h (fun b => lo < b ∧ b < n ∧ blkOf v ≠ some b) r (l.map (.int .i64)) l.length 1
theorem Mat.nil {h : Heap} {n lo : Nat} : Mat h n lo .nilsl [] [] := ⟨rfl, .nil, fun j r l hr => by simp at hr⟩
theorem Mat.keep {h h' : Heap} {n n' lo : Nat} {v : AV} {rows : List AV} {L : List (List Int)} (m : Mat h n lo v rows L) (hn : n ≤ n') (hk : ∀ b, lo < b → b < n → h'.get b = h.get b) : Mat h' n' lo v rows L :=
  ⟨m.len, m.out.keep fun b hb _ => ⟨hk b hb.2.1 hb.2.2, hb.1, hb.2.1, by omega⟩, fun j r l h1 h2 => (m.row j r l h1 h2).keep fun b hb _ => ⟨hk b hb.1 hb.2.1, hb.1, by omega, hb.2.2⟩⟩
theorem Mat.frzL {h : Heap} {n lo : Nat} {v : AV} {rows : List AV} {L : List (List Int)} (m : Mat h n lo v rows L) : FrzL h rows (L.map fun l => .fsl (l.map (.int .i64)) l.length 1) := by
  have key : ∀ (rows : List AV) (L : List (List Int)), rows.length = L.length → (∀ (j : Nat) (r : AV) (l : List Int), rows[j]? = some r → L[j]? = some l → FrzTo h r (.fsl (l.map (.int .i64)) l.length 1)) →
      FrzL h rows (L.map fun l => .fsl (l.map (.int .i64)) l.length 1) := by
    intro rows
    induction rows with
    | nil => intro L hl _; cases L with | nil => trivial | cons a L => simp at hl
    | cons r rows ih =>
      intro L hl hh
      cases L with
      | nil => simp at hl
      | cons a L => exact ⟨hh 0 r a rfl rfl, ih L (by simpa using hl) fun j r l h1 h2 => hh (j + 1) r l (by simpa using h1) (by simpa using h2)⟩
  exact key rows L m.len fun j r l h1 h2 => (m.row j r l h1 h2).frz (FrzL.same _)
theorem Mat.frz {h : Heap} {n lo : Nat} {v : AV} {rows : List AV} {L : List (List Int)} (m : Mat h n lo v rows L) : FrzTo h v (.fsl (L.map fun l => .fsl (l.map (.int .i64)) l.length 1) L.length 1) := by
  have := m.out.frz m.frzL
  rwa [m.len] at this
theorem Row.one {h : Heap} {ok : Nat → Prop} {v : AV} {cs : List AV} {len sz : Nat} (hr : Row h ok v cs len sz) : v.one = true := by
  rcases hr with ⟨rfl, _⟩ | ⟨_, _, rfl, _⟩ <;> rfl
theorem Row.boxable {h : Heap} {ok : Nat → Prop} {v : AV} {cs : List AV} {len sz : Nat} (hr : Row h ok v cs len sz) : v.boxable = true := by
  rcases hr with ⟨rfl, _⟩ | ⟨_, _, rfl, _⟩ <;> rfl
section
variable {N : NM} {n : Nat} {d : Option Nat} {dead : List Nat} {r : List SOper} {T : Tmps} {Q : QC} {fs : List Fr}
end
end Go.AM
set_option linter.unusedSimpArgs false
set_option linter.unusedVariables false
namespace Go.AM
variable {P : Program}
abbrev HL := List (Nat × Blk)
def hp : HL → Heap
  | [] => .e
  | p :: r => (hp r).set p.1 p.2
theorem get_e {b : Nat} : Tr.get (α := Blk) .e b = none := by simp [Tr.get]
def lkS : List (Nat × Src) → Nat → Option Src
  | [], _ => none
  | (b, s) :: r, k => if k = b then some s else lkS r k
def srcNew (s : Src) : List (Nat × Src) → Bool
  | [] => true
  | (_, t) :: r => (match s, t with | .blk b _, .blk b' _ => !Nat.beq b b' | _, _ => true) && srcNew s r
def okPs (m : Nat) : List (Nat × Src) → HL → Bool
  | [], [] => true
  | (b, s) :: r, (b', _) :: l => Nat.beq b b' && Nat.blt b 1099511627775 && (Nat.blt b m || ((match s with | .blk k _ => Nat.ble m k | .nil => true) && srcNew s r)) && (r.all fun p => !Nat.beq p.1 b) && okPs m r l
  | _, _ => false
def ow (m : Nat) (ps : List (Nat × Src)) : Nat → Option Src := fun b => if b < m then none else lkS ps b
def RB (m : Nat) (π : Nat → Option Src) (h : Heap) : HL → Prop
  | [] => True
  | (b', x) :: r => ((b' < m ∧ BRn m π h (some (.blk b' x.gen)) x) ∨ (m ≤ b' ∧ x.gen = 0 ∧ (∀ g, x ≠ .dead g) ∧ BRn m π h (π b') x)) ∧ RB m π h r
section
variable {m : Nat} {π : Nat → Option Src} {h : Heap}
theorem hp_get : ∀ {L : HL} {ps : List (Nat × Src)}, okPs m ps L = true → ∀ {b : Nat} {x : Blk}, (hp L).get b = some x → (b, x) ∈ L
  | [], [], _, b, x, hx => by simp [hp, Tr.get] at hx
  | [], _ :: _, hh, _, _, _ => by simp [okPs] at hh
  | (b', x') :: L, [], hh, _, _, _ => by simp [okPs] at hh
  | (b', x') :: L, (k, s) :: ps, hh, b, x, hx => by
    simp only [okPs, Bool.and_eq_true, Nat.blt_eq, Nat.beq_eq] at hh
    obtain ⟨⟨⟨⟨rfl, h3⟩, _⟩, _⟩, h4⟩ := hh
    simp only [hp] at hx
    by_cases e : b = k
    · subst e
      rw [get_same h3] at hx; cases hx
      simp
    · rw [get_ne h3 e] at hx
      simp [hp_get h4 hx]
theorem hp_none : ∀ {L : HL} {ps : List (Nat × Src)}, okPs m ps L = true → ∀ {b : Nat}, (hp L).get b = none → lkS ps b = none
  | [], [], _, b, _ => rfl
  | [], _ :: _, hh, _, _ => by simp [okPs] at hh
  | (b', x') :: L, [], hh, _, _ => by simp [okPs] at hh
  | (b', x') :: L, (k, s) :: ps, hh, b, hx => by
    simp only [okPs, Bool.and_eq_true, Nat.blt_eq, Nat.beq_eq] at hh
    obtain ⟨⟨⟨⟨rfl, h3⟩, _⟩, _⟩, h4⟩ := hh
    simp only [hp] at hx
    by_cases e : b = k
    · subst e
      rw [get_same h3] at hx; cases hx
    · rw [get_ne h3 e] at hx
      simp only [lkS, if_neg e]
      exact hp_none h4 hx
theorem RB.mem : ∀ {L : HL}, RB m π h L → ∀ {b : Nat} {x : Blk}, (b, x) ∈ L → (b < m ∧ BRn m π h (some (.blk b x.gen)) x) ∨ (m ≤ b ∧ x.gen = 0 ∧ (∀ g, x ≠ .dead g) ∧ BRn m π h (π b) x)
  | [], _, _, _, hm => by cases hm
  | (b', x') :: L, hh, b, x, hm => by
    rcases List.mem_cons.1 hm with e | hm
    · cases e; exact hh.1
    · exact RB.mem hh.2 hm
theorem okPs_src : ∀ {ps : List (Nat × Src)} {L : HL}, okPs m ps L = true → ∀ {b b1 g : Nat}, m ≤ b → lkS ps b = some (.blk b1 g) → m ≤ b1
  | [], _, _, _, _, _, _, hs => by simp [lkS] at hs
  | _ :: _, [], hh, _, _, _, _, _ => by simp [okPs] at hh
  | (k, s) :: ps, (b', x') :: L, hh, b, b1, g, hb, hs => by
    simp only [okPs, Bool.and_eq_true, Bool.or_eq_true, Nat.blt_eq] at hh
    obtain ⟨⟨⟨_, h3⟩, _⟩, h4⟩ := hh
    simp only [lkS] at hs
    split at hs
    · rename_i e
      cases hs
      rcases h3 with h3 | h3
      · omega
      · simpa using h3.1
    · exact okPs_src h4 hb hs
theorem srcNew_ne : ∀ {ps : List (Nat × Src)} {b g b' g' k : Nat}, srcNew (.blk b g) ps = true → lkS ps k = some (.blk b' g') → b ≠ b'
  | [], _, _, _, _, _, _, hs => by simp [lkS] at hs
  | (j, s) :: ps, b, g, b', g', k, hh, hs => by
    simp only [srcNew, Bool.and_eq_true] at hh
    simp only [lkS] at hs
    split at hs
    · cases hs
      have := hh.1
      simp only [Bool.not_eq_true'] at this
      intro e; subst e; simp at this
    · exact srcNew_ne hh.2 hs
theorem okPs_inj : ∀ {ps : List (Nat × Src)} {L : HL}, okPs m ps L = true → ∀ {b1 b2 b g g2 : Nat}, m ≤ b1 → m ≤ b2 → lkS ps b1 = some (.blk b g) → lkS ps b2 = some (.blk b g2) → b1 = b2
  | [], _, _, _, _, _, _, _, _, _, hs, _ => by simp [lkS] at hs
  | _ :: _, [], hh, _, _, _, _, _, _, _, _, _ => by simp [okPs] at hh
  | (k, s) :: ps, (b', x') :: L, hh, b1, b2, b, g, g2, m1, m2, h1, h2 => by
    simp only [okPs, Bool.and_eq_true, Bool.or_eq_true, Nat.blt_eq] at hh
    obtain ⟨⟨⟨_, hn⟩, _⟩, h4⟩ := hh
    simp only [lkS] at h1 h2
    split at h1 <;> split at h2
    · rename_i e1 e2; rw [e1, e2]
    · rename_i e1 e2
      cases h1
      rcases hn with hn | hn
      · omega
      · exact absurd rfl (srcNew_ne hn.2 h2)
    · rename_i e1 e2
      cases h2
      rcases hn with hn | hn
      · omega
      · exact absurd rfl (srcNew_ne hn.2 h1)
    · exact okPs_inj h4 m1 m2 h1 h2
theorem lkS_mem : ∀ {ps : List (Nat × Src)} {L : HL}, okPs m ps L = true → ∀ {b : Nat} {s : Src}, lkS ps b = some s → ∃ x, (b, x) ∈ L
  | [], _, _, _, _, hs => by simp [lkS] at hs
  | _ :: _, [], hh, _, _, _ => by simp [okPs] at hh
  | (k, t) :: ps, (b', x') :: L, hh, b, s, hs => by
    simp only [okPs, Bool.and_eq_true, Nat.beq_eq] at hh
    obtain ⟨⟨⟨⟨rfl, _⟩, _⟩, _⟩, h4⟩ := hh
    simp only [lkS] at hs
    split at hs
    · rename_i e; subst e; exact ⟨x', by simp⟩
    · obtain ⟨x, hx⟩ := lkS_mem h4 hs
      exact ⟨x, by simp [hx]⟩
def RO (m : Nat) (L : HL) (h : Heap) : Prop := ∀ b, b < m → (∀ p ∈ L, p.1 ≠ b) → h.get b = none
theorem RO.zero {L : HL} : RO 0 L h := fun b hb => absurd hb (Nat.not_lt_zero _)
theorem RO.e {L : HL} : RO m L .e := fun b _ _ => get_e
theorem RO.set {L : HL} {k : Nat} {x : Blk} (hk : (Nat.blt k 1099511627775 && (Nat.ble m k || L.any fun p => Nat.beq p.1 k)) = true) (hr : RO m L h) : RO m L (h.set k x) := fun b hb hn => by
  simp only [Bool.and_eq_true, Bool.or_eq_true, Nat.blt_eq, Nat.ble_eq, List.any_eq_true, Nat.beq_eq] at hk
  obtain ⟨h1, h2⟩ := hk
  have : b ≠ k := by
    rintro rfl
    rcases h2 with h2 | ⟨p, hp, h2⟩
    · omega
    · exact hn p hp h2
  rw [get_ne h1 this]; exact hr b hb hn
def Rec (m : Nat) (T' : Tmps) (L : HL) (T : Tmps) (h : Heap) : Prop := ∃ ps, okPs m ps L = true ∧ RO m L h ∧ RB m (ow m ps) h L ∧ RT m (ow m ps) h T' T
theorem ow_ge {ps : List (Nat × Src)} {b : Nat} (hb : m ≤ b) : ow m ps b = lkS ps b := if_neg (by omega)
theorem Rec.maps {ps : List (Nat × Src)} {L : HL} (ho : okPs m ps L = true) (hb : RB m (ow m ps) h L) : Maps m (ow m ps) h := by
  refine ⟨fun b' b g hm hs => ?_, fun b1 b2 b g g2 m1 m2 h1 h2 => okPs_inj ho m1 m2 (by rw [← ow_ge m1]; exact h1) (by rw [← ow_ge m2]; exact h2)⟩
  rw [ow_ge hm] at hs
  refine ⟨?_, okPs_src ho hm hs⟩
  obtain ⟨x, hx⟩ := lkS_mem ho hs
  rcases hb.mem hx with ⟨q0, _⟩ | ⟨_, q1, q2, q3⟩
  · omega
  rw [ow_ge hm, hs] at q3
  cases x with
  | cells g' cs => obtain ⟨ds, _, k1, _⟩ := q3; exact ⟨_, k1, rfl, fun k => by simp⟩
  | map g' es => obtain ⟨ds, k1, _⟩ := q3; exact ⟨_, k1, rfl, fun k => by simp⟩
  | loop g' N T ps asg body st => obtain ⟨T0, k1, _⟩ := q3; exact ⟨_, k1, rfl, fun k => by simp⟩
  | dead g' => exact absurd rfl (q2 g')
theorem Rec.heap {ps : List (Nat × Src)} {L : HL} (ho : okPs m ps L = true) (hb : RB m (ow m ps) h L) : RH m (ow m ps) h (hp L) := fun b' x' hx => hb.mem (hp_get ho hx)
theorem hp_mem : ∀ {L : HL} {ps : List (Nat × Src)}, okPs m ps L = true → ∀ {b : Nat}, (hp L).get b = none → ∀ p ∈ L, p.1 ≠ b
  | [], _, _, _, _, p, hp => by cases hp
  | (b', x') :: L, [], hh, _, _, _, _ => by simp [okPs] at hh
  | (b', x') :: L, (k, s) :: ps, hh, b, hx, p, hpm => by
    simp only [okPs, Bool.and_eq_true, Nat.blt_eq, Nat.beq_eq] at hh
    obtain ⟨⟨⟨⟨rfl, h3⟩, _⟩, _⟩, h4⟩ := hh
    simp only [hp] at hx
    by_cases e : b = k
    · subst e; rw [get_same h3] at hx; cases hx
    · rw [get_ne h3 e] at hx
      rcases List.mem_cons.1 hpm with rfl | hpm
      · exact fun e2 => e e2.symm
      · exact hp_mem h4 hx p hpm
theorem Rec.dom {ps : List (Nat × Src)} {L : HL} (ho : okPs m ps L = true) (hr : RO m L h) : RD m (ow m ps) h (hp L) := fun b' hx =>
  ⟨fun hlt => hr b' hlt (hp_mem ho hx), fun hge => by rw [ow_ge hge]; exact hp_none ho hx⟩
theorem W2.post {sc : SCode} {k : Nat} {Q : SX → St → Prop} {A : St} (hw : W2 P ⟨k, m⟩ sc (fun e B => Q e B ∨ ∃ T' L, Rec m T' L B.T B.h ∧ Q e ⟨T', hp L⟩) A) : W2 P ⟨k, m⟩ sc Q A := by
  intro code hok c a w S ro hro Q' hQ
  refine hw code hok c a w S ro hro Q' ?_
  rintro e B c' a' w' (hq | ⟨T', L, ⟨ps, ho, hro, hb, ht⟩, hq⟩) S' E'
  · exact hQ e B c' a' w' hq S' E'
  · have M := Rec.maps ho hb
    exact hQ e ⟨T', hp L⟩ (nctx m (ow m ps) B.h c') a' w' hq ⟨(Rec.heap ho hb).hrel (Rec.dom ho hro) M S'.heap, fun i => ht i _ c' w' _ S'.heap M (S'.tmps i), S'.size, S'.defers.mono2 (nctx_evo (m := m) (π := ow m ps) (h := B.h) c' w')⟩ (E'.trans (nctx_evo c' w'))
theorem RT.nil {T : Tmps} : RT m π h [] T := fun _ => Rn.any
theorem RT.cons {T' T : Tmps} {j : Nat} {v : AV} (hv : Rn m π h v (lk T j)) (hr : RT m π h T' T) : RT m π h ((j, v) :: T') T := by
  intro i
  rw [lk_cons]
  split
  · rename_i e; subst e; exact hv
  · exact hr i
theorem RB.nil : RB m π h [] := trivial
theorem RB.cells {b b' g : Nat} {cs ds : List AV} {r : HL} (hm : Nat.ble m b' = true) (hp : π b' = some (.blk b g)) (hg : h.get b = some (.cells g ds)) (hc : RnL m π h cs ds) (hr : RB m π h r) : RB m π h ((b', .cells 0 cs) :: r) :=
  ⟨.inr ⟨Nat.le_of_ble_eq_true hm, rfl, fun _ => by simp, by rw [hp]; exact ⟨ds, ds.length, hg, by rw [List.take_length]; exact hc⟩⟩, hr⟩
theorem RB.pre {b b' g : Nat} {cs ds : List AV} {r : HL} (k : Nat) (hm : Nat.ble m b' = true) (hp : π b' = some (.blk b g)) (hg : h.get b = some (.cells g ds)) (hc : RnL m π h cs (ds.take k)) (hr : RB m π h r) : RB m π h ((b', .cells 0 cs) :: r) :=
  ⟨.inr ⟨Nat.le_of_ble_eq_true hm, rfl, fun _ => by simp, by rw [hp]; exact ⟨ds, k, hg, hc⟩⟩, hr⟩
theorem RB.map {b b' g : Nat} {es fs : List (AV × AV)} {r : HL} (hm : Nat.ble m b' = true) (hp : π b' = some (.blk b g)) (hg : h.get b = some (.map g fs)) (hc : RnM m π h es fs) (hr : RB m π h r) : RB m π h ((b', .map 0 es) :: r) :=
  ⟨.inr ⟨Nat.le_of_ble_eq_true hm, rfl, fun _ => by simp, by rw [hp]; exact ⟨fs, hg, hc⟩⟩, hr⟩
theorem RnL.nil {m : Nat} {π : Nat → Option Src} {h : Heap} : RnL m π h [] [] := trivial
theorem RnL.cons {m : Nat} {π : Nat → Option Src} {h : Heap} {x y : AV} {xs ys : List AV} (h1 : Rn m π h x y) (h2 : RnL m π h xs ys) : RnL m π h (x :: xs) (y :: ys) := ⟨h1, h2⟩
end
section
variable {m : Nat} {π : Nat → Option Src} {h : Heap}
end
section
variable {k m n : Nat} {T : Tmps} {h : Heap} {Q : QC} {fs : List Fr} {α : Type} {env : α → Tmps} {H : α → HL} {I : α → Prop} {μ : α → Nat} {a : α}
section
variable {β : Type} {i : Nat} {T1 : β → Tmps} {L1 : β → HL} {J : β → Prop}
end
end
section
variable {N : NM} {n : Nat} {d : Option Nat} {af dead : List Nat} {r : List SOper} {T : Tmps} {h : Heap} {Q : QC} {fs : List Fr}
end
end Go.AM
set_option linter.unusedVariables false
namespace Go.AM
end Go.AM
set_option linter.unusedSimpArgs false
set_option linter.unusedVariables false
namespace Go.AM
variable {P : Program}
def RnO (h : Heap) (x y : AV) : Prop := ∀ (ok : Okc) (c : Ctx ok) (w : World) (v : Value), HRel c h w → VRel c w y v → VRel (only (ok := ok) c.O) w x v
def RnOL (h : Heap) : List AV → List AV → Prop
  | [], [] => True
  | x :: xs, y :: ys => RnO h x y ∧ RnOL h xs ys
  | _, _ => False
section
variable {h : Heap}
theorem RnO.flat {x : AV} (hf : flatV x = true) : RnO h x x := fun _ c w v _ hv => VRel.flat _ _ hf hv
theorem RnOL.nil : RnOL h [] [] := trivial
theorem RnOL.cons {x y : AV} {xs ys : List AV} (h1 : RnO h x y) (h2 : RnOL h xs ys) : RnOL h (x :: xs) (y :: ys) := ⟨h1, h2⟩
theorem RnOL.rels {ok : Okc} {c : Ctx ok} {w : World} (H : HRel c h w) : ∀ {xs ys : List AV} {vs : List Value}, RnOL h xs ys → VRels c w ys vs → VRels (only (ok := ok) c.O) w xs vs
  | [], [], _, _, hv => by simpa [VRels] using hv
  | [], _ :: _, _, hh, _ => hh.elim
  | _ :: _, [], _, hh, _ => hh.elim
  | x :: xs, y :: ys, vs, hh, hv => by
    simp only [VRels] at hv ⊢
    obtain ⟨v, vs', rfl, g1, g2⟩ := hv
    exact ⟨v, vs', rfl, hh.1 _ c w v H g1, RnOL.rels H hh.2 g2⟩
theorem RnO.tup {xs ys : List AV} (hL : RnOL h xs ys) : RnO h (.tup xs) (.tup ys) := fun _ c w v H hv => by
  simp only [VRel] at hv ⊢
  obtain ⟨vs, rfl, hv⟩ := hv
  exact ⟨vs, rfl, hL.rels H hv⟩
theorem RnO.sl {b g len sz : Nat} {ds : List AV} (hb : h.get b = some (.cells g ds)) (hf : flatVs ds = true) (hl : ds.length = len * sz) : RnO h (.fsl ds len sz) (.sl b g 0 len sz) := fun _ c w v H hv => by
  simp only [VRel] at hv
  rcases hv with ⟨hp, rfl, _, rfl⟩ | ⟨cb, base, o, cap, C, e, fr, hp, rfl, hlc, hC, hcap⟩
  · have : ds = [] := List.eq_nil_of_length_eq_zero (by rw [hl]; simp)
    subst this
    simp only [VRel]; exact .inl (by simp)
  · obtain ⟨C', e', fr', hO, hC', hfr, hbs, hpre⟩ := H.here hb hp
    rw [hC] at hC'; cases hC'
    by_cases h0 : cap = 0
    · have hl0 : len = 0 := by omega
      subst hl0
      have : ds = [] := List.eq_nil_of_length_eq_zero (by rw [hl]; simp)
      subst this
      simp only [VRel]
      exact .inr ⟨cb, o, cap, C, e, fr, rfl, hlc, by simp, hO, hC, by simp [VPre]⟩
    · obtain ⟨ho, hbd⟩ := hcap.resolve_left h0
      simp only [VRel]
      exact .inr ⟨cb, o, cap, C, e, fr, rfl, hlc, hl, hO, hC, by rw [ho]; exact VPre.flat hf hpre⟩
end
section
variable {h : Heap}
theorem FrzTo.fn {f : Nat} {xs ys us vs : List AV} (hL : FrzL h xs ys) (hK : FrzL h us vs) : FrzTo h (.fn f xs us) (.fn f ys vs) := fun _ c w v H hv => by
  simp only [VRel] at hv ⊢
  obtain ⟨x', y', rfl, h1, h2⟩ := hv
  exact ⟨x', y', rfl, hL.rels H h1, hK.rels H h2⟩
theorem FrzTo.ptr {b g off : Nat} {cs ys : List AV} (hb : h.get b = some (.cells g cs)) (hL : FrzL h (cs.drop off) ys) : FrzTo h (.ptr b g off) (.fptr ys) := fun _ c w v H hv => by
  simp only [VRel] at hv
  obtain ⟨cb, base, hp, rfl⟩ := hv
  obtain ⟨C', e', fr', hO, hC', hfr, hbs, hpre⟩ := H.here hb hp
  have hp2 := VPre_drop off hpre
  rw [List.drop_drop] at hp2
  simp only [VRel]
  exact ⟨cb, base + off, C', e', fr', rfl, .inr hO, hC', hL.pre H hp2⟩
theorem FrzTo.map {b g : Nat} {es : List (AV × AV)} {ks vs : List AV} (hb : h.get b = some (.map g es)) (hk : FrzL h (es.map (·.1)) ks) (hv : FrzL h (es.map (·.2)) vs) : FrzTo h (.map b g) (.fmap ks vs) := fun _ c w v H hx => by
  simp only [VRel] at hx
  obtain ⟨cb, hp, rfl⟩ := hx
  obtain ⟨ms, clock, hO, hC, hR, hcl⟩ := H.atMap hb hp
  obtain ⟨g1, g2, g3⟩ := MRel_to hR
  have hl := MRel_length hR
  simp only [VRel]
  exact ⟨cb, ms, clock, rfl, .inr hO, hC, by simp at hl; omega, g1, hk.rels H g2, hv.rels H g3⟩
end
end Go.AM
set_option linter.unusedSimpArgs false
set_option linter.unusedVariables false
namespace Go.AM
variable {P : Program}
section
variable {N : NM} {n : Nat} {T L : Tmps} {h : Heap} {Q : QC} {fs : List Fr} {b2 : Nat} {G : Prop}
theorem Rec.sub {m : Nat} {T1 T Lx : Tmps} {L : HL} {h : Heap} (hr : Rec m T1 L Lx h) (hS : Sub Lx T) : Rec m T1 L T h := by
  obtain ⟨ps, h1, h2, h3, h4⟩ := hr
  refine ⟨ps, h1, h2, h3, fun i => ?_⟩
  rcases hS i with e | e
  · intro _ c w v H M _
    exact h4 i _ c w v H M (by rw [e]; simp [VRel])
  · rw [← e]; exact h4 i
end
end Go.AM
