/- The slim code, for running, of functions of the given program; that it is theirs is checked. -/
import Derived.Test.YtjojndgfbbmfnaaDoorAmS
import Derived.Test.YtjojndgfbbmfnaaDoorProg
import Derived.KernelRfl
set_option maxRecDepth 100000
namespace Go.AM.FD
open Go.Proofs
-- overseer/overseerlaw59.CatalogueFacts
def f3 : FFn := ⟨103, [.tmp 4],
 (.seq (.region [⟨true, ⟨(some 4), .mov (.c (.bool false)), [], none⟩⟩] [] 16)
 (.seq (.seq (.region [⟨true, ⟨(some 11), .call .pure (.f 7) [], [], none⟩⟩,
   ⟨true, ⟨(some 12), .un .not (.t 11), [0], none⟩⟩] [] 2048)
 (.cond (.t 12)
  (.seq (.region [⟨true, ⟨(some 4), .mov (.c (.bool false)), [], none⟩⟩] [] 4099)
  .ret)
  .skip))
 (.seq (.region [⟨true, ⟨(some 14), .mov (.t 0), [], none⟩⟩,
   ⟨true, ⟨(some 15), .mov (.t 1), [], none⟩⟩,
   ⟨true, ⟨(some 16), .call .pure (.f 8) [(.t 14), (.t 15)], [0, 1], none⟩⟩,
   ⟨true, ⟨(some 13), .mov (.t 16), [2], none⟩⟩,
   ⟨true, ⟨(some 17), .extract 0 (.t 13), [3], none⟩⟩,
   ⟨true, ⟨(some 18), .extract 1 (.t 13), [3], none⟩⟩,
   ⟨true, ⟨(some 5), .mov (.t 17), [4, 2, 0, 1, 2, 3, 4], none⟩⟩,
   ⟨true, ⟨(some 6), .mov (.t 18), [5, 6, 0, 1, 2, 3, 4, 5, 6], none⟩⟩] [] 520211)
 (.seq (.region [⟨true, ⟨(some 20), .mov (.t 5), [], none⟩⟩,
   ⟨true, ⟨(some 21), .mov (.t 6), [], none⟩⟩,
   ⟨true, ⟨(some 22), .call .pure (.f 9) [(.t 20), (.t 21)], [0, 1], none⟩⟩,
   ⟨true, ⟨(some 19), .mov (.t 22), [2], none⟩⟩,
   ⟨true, ⟨(some 23), .extract 0 (.t 19), [3], none⟩⟩,
   ⟨true, ⟨(some 24), .extract 1 (.t 19), [3], none⟩⟩,
   ⟨true, ⟨(some 7), .alloc .dyn (.agg [(.int .i64 (.ofNat 0)), (.int .i64 (.ofNat 0)), (.int .i64 (.ofNat 0)), (.int .i64 (.ofNat 0)), .nilsl]), [], none⟩⟩,
   ⟨false, ⟨none, .store 5 (.t 7) (.t 23), [6, 4, 2, 0, 1, 2, 3, 4, 6], none⟩⟩,
   ⟨true, ⟨(some 8), .mov (.t 24), [5, 7, 0, 1, 2, 3, 4, 5, 6, 7], none⟩⟩] [] 33030144)
 (.seq (.region [⟨true, ⟨(some 25), .mov (.t 5), [], none⟩⟩,
   ⟨true, ⟨(some 26), .mov (.t 6), [], none⟩⟩,
   ⟨true, ⟨(some 27), .call .pure (.f 10) [(.t 25), (.t 26)], [0, 1], none⟩⟩,
   ⟨true, ⟨(some 9), .alloc .dyn (.agg [(.int .i64 (.ofNat 0)), (.int .i64 (.ofNat 0)), (.int .i64 (.ofNat 0)), (.int .i64 (.ofNat 0)), .nilsl]), [], none⟩⟩,
   ⟨false, ⟨none, .store 5 (.t 9) (.t 27), [3, 2, 2, 0, 1, 2, 3], none⟩⟩] [] 234881120)
 (.seq (.seq (.region [⟨true, ⟨(some 28), .mov (.t 8), [], none⟩⟩,
   ⟨true, ⟨(some 29), .bin .neq (.t 28) (.c (.int .i64 (.ofNat 0))), [0], none⟩⟩,
   ⟨true, ⟨(some 30), .mov (.t 29), [1], none⟩⟩,
   ⟨true, ⟨(some 31), .faddr 0 (.t 7), [2], (some (30, false))⟩⟩,
   ⟨true, ⟨(some 32), .load none (.t 31), [3, 2], (some (30, false))⟩⟩,
   ⟨true, ⟨(some 33), .faddr 0 (.t 9), [2], (some (30, false))⟩⟩,
   ⟨true, ⟨(some 34), .load none (.t 33), [5, 2], (some (30, false))⟩⟩,
   ⟨true, ⟨(some 35), .bin .neq (.t 32) (.t 34), [4, 6, 2], (some (30, false))⟩⟩,
   ⟨true, ⟨(some 36), .pick (.t 30) (.c (.bool true)) (.t 35), [2, 7], none⟩⟩,
   ⟨true, ⟨(some 37), .mov (.t 36), [8, 2], none⟩⟩,
   ⟨true, ⟨(some 38), .faddr 1 (.t 7), [9], (some (37, false))⟩⟩,
   ⟨true, ⟨(some 39), .load none (.t 38), [10, 9], (some (37, false))⟩⟩,
   ⟨true, ⟨(some 40), .faddr 1 (.t 9), [9], (some (37, false))⟩⟩,
   ⟨true, ⟨(some 41), .load none (.t 40), [12, 9], (some (37, false))⟩⟩,
   ⟨true, ⟨(some 42), .bin .neq (.t 39) (.t 41), [11, 13, 9], (some (37, false))⟩⟩,
   ⟨true, ⟨(some 43), .pick (.t 37) (.c (.bool true)) (.t 42), [9, 14], none⟩⟩,
   ⟨true, ⟨(some 44), .mov (.t 43), [15, 9], none⟩⟩,
   ⟨true, ⟨(some 45), .faddr 2 (.t 7), [16], (some (44, false))⟩⟩,
   ⟨true, ⟨(some 46), .load none (.t 45), [17, 16], (some (44, false))⟩⟩,
   ⟨true, ⟨(some 47), .faddr 2 (.t 9), [16], (some (44, false))⟩⟩,
   ⟨true, ⟨(some 48), .load none (.t 47), [19, 16], (some (44, false))⟩⟩,
   ⟨true, ⟨(some 49), .bin .neq (.t 46) (.t 48), [18, 20, 16], (some (44, false))⟩⟩,
   ⟨true, ⟨(some 50), .pick (.t 44) (.c (.bool true)) (.t 49), [16, 21], none⟩⟩,
   ⟨true, ⟨(some 51), .mov (.t 50), [22, 16], none⟩⟩,
   ⟨true, ⟨(some 52), .faddr 3 (.t 7), [23], (some (51, false))⟩⟩,
   ⟨true, ⟨(some 53), .load none (.t 52), [24, 23], (some (51, false))⟩⟩,
   ⟨true, ⟨(some 54), .faddr 3 (.t 9), [23], (some (51, false))⟩⟩,
   ⟨true, ⟨(some 55), .load none (.t 54), [26, 23], (some (51, false))⟩⟩,
   ⟨true, ⟨(some 56), .bin .neq (.t 53) (.t 55), [25, 27, 23], (some (51, false))⟩⟩,
   ⟨true, ⟨(some 57), .pick (.t 51) (.c (.bool true)) (.t 56), [23, 28], none⟩⟩,
   ⟨true, ⟨(some 58), .mov (.t 57), [29, 23], none⟩⟩,
   ⟨true, ⟨(some 59), .faddr 4 (.t 7), [30], (some (58, false))⟩⟩,
   ⟨true, ⟨(some 60), .load none (.t 59), [31, 30], (some (58, false))⟩⟩,
   ⟨true, ⟨(some 61), .len 1 (.t 60), [32, 30], (some (58, false))⟩⟩,
   ⟨true, ⟨(some 62), .faddr 4 (.t 9), [30], (some (58, false))⟩⟩,
   ⟨true, ⟨(some 63), .load none (.t 62), [34, 30], (some (58, false))⟩⟩,
   ⟨true, ⟨(some 64), .len 1 (.t 63), [35, 30], (some (58, false))⟩⟩,
   ⟨true, ⟨(some 65), .bin .neq (.t 61) (.t 64), [33, 36, 30], (some (58, false))⟩⟩,
   ⟨true, ⟨(some 66), .pick (.t 58) (.c (.bool true)) (.t 65), [30, 37], none⟩⟩] [] 73786976294569771264)
 (.cond (.t 66)
  (.seq (.region [⟨true, ⟨(some 4), .mov (.c (.bool false)), [], none⟩⟩] [] 73786976294838207104)
  .ret)
  .skip))
 (.seq (.seq (.region [⟨true, ⟨(some 10), .mov (.c (.int .i64 (.ofNat 0))), [], none⟩⟩] [] 73786976294838206480)
 (.block 0 (.loop (.seq (.seq (.region [⟨true, ⟨(some 67), .mov (.t 10), [], none⟩⟩,
   ⟨true, ⟨(some 68), .faddr 4 (.t 9), [], none⟩⟩,
   ⟨true, ⟨(some 69), .load none (.t 68), [1], none⟩⟩,
   ⟨true, ⟨(some 70), .len 1 (.t 69), [2], none⟩⟩,
   ⟨true, ⟨(some 71), .bin .lss (.t 67) (.t 70), [0, 3], none⟩⟩] [] 2213609288845146193920)
 (.cond (.t 71)
  .skip
  (.exit 0)))
 (.seq (.block 1 (.seq (.region [⟨true, ⟨(some 74), .faddr 4 (.t 7), [], none⟩⟩,
   ⟨true, ⟨(some 75), .load none (.t 74), [0], none⟩⟩,
   ⟨true, ⟨(some 76), .mov (.t 10), [], none⟩⟩,
   ⟨true, ⟨(some 77), .iaddr none 2 (.t 75) (.t 76), [1, 2], none⟩⟩,
   ⟨true, ⟨(some 78), .faddr 1 (.t 77), [3], none⟩⟩,
   ⟨true, ⟨(some 79), .load none (.t 78), [4], none⟩⟩,
   ⟨true, ⟨(some 80), .faddr 4 (.t 9), [], none⟩⟩,
   ⟨true, ⟨(some 81), .load none (.t 80), [6], none⟩⟩,
   ⟨true, ⟨(some 82), .mov (.t 10), [], none⟩⟩,
   ⟨true, ⟨(some 83), .iaddr none 2 (.t 81) (.t 82), [7, 8], none⟩⟩,
   ⟨true, ⟨(some 84), .faddr 1 (.t 83), [9], none⟩⟩,
   ⟨true, ⟨(some 85), .load none (.t 84), [10], none⟩⟩,
   ⟨true, ⟨(some 86), .bin .neq (.t 79) (.t 85), [5, 11], none⟩⟩,
   ⟨true, ⟨(some 87), .mov (.t 86), [12], none⟩⟩,
   ⟨false, ⟨(some 88), .faddr 4 (.t 7), [13], (some (87, false))⟩⟩,
   ⟨false, ⟨(some 89), .load none (.t 88), [14, 13], (some (87, false))⟩⟩,
   ⟨false, ⟨(some 90), .mov (.t 10), [13], (some (87, false))⟩⟩,
   ⟨false, ⟨(some 91), .iaddr none 2 (.t 89) (.t 90), [15, 16, 13], (some (87, false))⟩⟩,
   ⟨false, ⟨(some 92), .faddr 0 (.t 91), [17, 13], (some (87, false))⟩⟩,
   ⟨false, ⟨(some 93), .load none (.t 92), [18, 13], (some (87, false))⟩⟩,
   ⟨false, ⟨(some 94), .faddr 4 (.t 9), [13], (some (87, false))⟩⟩,
   ⟨false, ⟨(some 95), .load none (.t 94), [20, 13], (some (87, false))⟩⟩,
   ⟨false, ⟨(some 96), .mov (.t 10), [13], (some (87, false))⟩⟩,
   ⟨false, ⟨(some 97), .iaddr none 2 (.t 95) (.t 96), [21, 22, 13], (some (87, false))⟩⟩,
   ⟨false, ⟨(some 98), .faddr 0 (.t 97), [23, 13], (some (87, false))⟩⟩,
   ⟨false, ⟨(some 99), .load none (.t 98), [24, 13], (some (87, false))⟩⟩,
   ⟨false, ⟨(some 100), .call .heap (.f 11) [(.t 93), (.t 99)], [19, 25, 13, 13], (some (87, false))⟩⟩,
   ⟨false, ⟨(some 101), .un .not (.t 100), [26, 13], (some (87, false))⟩⟩,
   ⟨true, ⟨(some 102), .pick (.t 87) (.c (.bool true)) (.t 101), [13, 27], none⟩⟩] [] 309468481538655024966533120)
 (.cond (.t 102)
  (.seq (.region [⟨true, ⟨(some 4), .mov (.c (.bool false)), [], none⟩⟩] [] 10140895316816013866904900863616)
  .ret)
  .skip)))
 (.region [⟨true, ⟨(some 72), .mov (.t 10), [], none⟩⟩,
   ⟨true, ⟨(some 73), .bin .add (.t 72) (.c (.int .i64 (.ofNat 1))), [0], none⟩⟩,
   ⟨false, ⟨(some 10), .mov (.t 73), [1, 0, 1], none⟩⟩] [] 5070602415080017054595748462608))))))
 (.seq (.region [⟨true, ⟨(some 4), .mov (.c (.bool true)), [], none⟩⟩] [] 5070292915903096260918088042112)
 .ret))))))))⟩

-- overseer/overseerlaw59.CatalogueKinds
def f4 : FFn := ⟨139, [.tmp 4],
 (.seq (.region [⟨true, ⟨(some 4), .mov (.c (.bool false)), [], none⟩⟩] [] 16)
 (.seq (.seq (.region [⟨true, ⟨(some 17), .call .pure (.f 7) [], [], none⟩⟩,
   ⟨true, ⟨(some 18), .un .not (.t 17), [0], none⟩⟩] [] 131072)
 (.cond (.t 18)
  (.seq (.region [⟨true, ⟨(some 4), .mov (.c (.bool false)), [], none⟩⟩] [] 262147)
  .ret)
  .skip))
 (.seq (.region [⟨true, ⟨(some 20), .mov (.t 0), [], none⟩⟩,
   ⟨true, ⟨(some 21), .call .pure (.f 12) [(.t 20)], [0], none⟩⟩,
   ⟨true, ⟨(some 19), .mov (.t 21), [1], none⟩⟩,
   ⟨true, ⟨(some 22), .extract 0 (.t 19), [2], none⟩⟩,
   ⟨true, ⟨(some 23), .extract 1 (.t 19), [2], none⟩⟩,
   ⟨true, ⟨(some 5), .mov (.t 22), [3, 1, 0, 1, 2, 3], none⟩⟩,
   ⟨true, ⟨(some 6), .mov (.t 23), [4, 5, 0, 1, 2, 3, 4, 5], none⟩⟩] [] 16515088)
 (.seq (.region [⟨true, ⟨(some 25), .mov (.t 0), [], none⟩⟩,
   ⟨true, ⟨(some 26), .call .pure (.f 13) [(.t 25)], [0], none⟩⟩,
   ⟨true, ⟨(some 24), .mov (.t 26), [1], none⟩⟩,
   ⟨true, ⟨(some 27), .extract 0 (.t 24), [2], none⟩⟩,
   ⟨true, ⟨(some 28), .extract 1 (.t 24), [2], none⟩⟩,
   ⟨true, ⟨(some 29), .extract 2 (.t 24), [2], none⟩⟩,
   ⟨true, ⟨(some 7), .mov (.t 27), [3, 1, 0, 1, 2, 3], none⟩⟩,
   ⟨true, ⟨(some 8), .mov (.t 28), [4, 6, 0, 1, 2, 3, 4, 6], none⟩⟩,
   ⟨true, ⟨(some 9), .mov (.t 29), [5, 7, 0, 1, 2, 3, 4, 5, 6, 7], none⟩⟩] [] 1056964608)
 (.seq (.region [⟨true, ⟨(some 31), .mov (.t 0), [], none⟩⟩,
   ⟨true, ⟨(some 32), .mov (.t 1), [], none⟩⟩,
   ⟨true, ⟨(some 33), .call .pure (.f 14) [(.t 31), (.t 32)], [0, 1], none⟩⟩,
   ⟨true, ⟨(some 30), .mov (.t 33), [2], none⟩⟩,
   ⟨true, ⟨(some 34), .extract 0 (.t 30), [3], none⟩⟩,
   ⟨true, ⟨(some 35), .extract 1 (.t 30), [3], none⟩⟩,
   ⟨true, ⟨(some 10), .alloc .dyn (.agg [.nilsl, .nilsl, .nilsl, .nilsl, .nilsl]), [], none⟩⟩,
   ⟨false, ⟨none, .store 5 (.t 10) (.t 34), [6, 4, 2, 0, 1, 2, 3, 4, 6], none⟩⟩,
   ⟨true, ⟨(some 11), .mov (.t 35), [5, 7, 0, 1, 2, 3, 4, 5, 6, 7], none⟩⟩] [] 67645734912)
 (.seq (.region [⟨true, ⟨(some 37), .mov (.t 0), [], none⟩⟩,
   ⟨true, ⟨(some 38), .mov (.t 1), [], none⟩⟩,
   ⟨true, ⟨(some 39), .call .pure (.f 9) [(.t 37), (.t 38)], [0, 1], none⟩⟩,
   ⟨true, ⟨(some 36), .mov (.t 39), [2], none⟩⟩,
   ⟨true, ⟨(some 40), .extract 0 (.t 36), [3], none⟩⟩,
   ⟨true, ⟨(some 41), .extract 1 (.t 36), [3], none⟩⟩,
   ⟨true, ⟨(some 12), .alloc .dyn (.agg [(.int .i64 (.ofNat 0)), (.int .i64 (.ofNat 0)), (.int .i64 (.ofNat 0)), (.int .i64 (.ofNat 0)), .nilsl]), [], none⟩⟩,
   ⟨false, ⟨none, .store 5 (.t 12) (.t 40), [6, 4, 2, 0, 1, 2, 3, 4, 6], none⟩⟩,
   ⟨true, ⟨(some 13), .mov (.t 41), [5, 7, 0, 1, 2, 3, 4, 5, 6, 7], none⟩⟩] [] 4329327034368)
 (.seq (.seq (.region [⟨true, ⟨(some 42), .call .heap (.f 15) [], [], none⟩⟩,
   ⟨true, ⟨(some 43), .bslice false .dyn 1 5 [(.int .i64 (.ofNat 0)), (.int .i64 (.ofNat 0)), (.int .i64 (.ofNat 0)), (.int .i64 (.ofNat 0)), (.int .i64 (.ofNat 0))] [(0, 1, (.c (.int .i64 (.ofNat 1)))), (1, 1, (.c (.int .i64 (.ofNat 2)))), (2, 1, (.c (.int .i64 (.ofNat 3)))), (3, 1, (.c (.int .i64 (.ofNat 4)))), (4, 1, (.c (.int .i64 (.ofNat 5))))], [], none⟩⟩,
   ⟨true, ⟨(some 44), .call .heap (.f 11) [(.t 42), (.t 43)], [0, 1, 0], none⟩⟩,
   ⟨true, ⟨(some 45), .un .not (.t 44), [2], none⟩⟩] [] 30786325577728)
 (.cond (.t 45)
  (.seq (.region [⟨true, ⟨(some 4), .mov (.c (.bool false)), [], none⟩⟩] [] 35184372105187)
  .ret)
  .skip))
 (.seq (.region [⟨true, ⟨(some 14), .mov (.c (.int .i64 (.ofNat 0))), [], none⟩⟩] [] 35184372088848)
 (.seq (.seq (.region [⟨true, ⟨(some 46), .mov (.t 0), [], none⟩⟩,
   ⟨true, ⟨(some 47), .bin .lss (.t 46) (.c (.int .i64 (.ofNat 1))), [0], none⟩⟩,
   ⟨true, ⟨(some 48), .mov (.t 47), [1], none⟩⟩,
   ⟨true, ⟨(some 49), .mov (.t 0), [2], (some (48, false))⟩⟩,
   ⟨true, ⟨(some 50), .bin .gtr (.t 49) (.c (.int .i64 (.ofNat 5))), [3, 2], (some (48, false))⟩⟩,
   ⟨true, ⟨(some 51), .pick (.t 48) (.c (.bool true)) (.t 50), [2, 4], none⟩⟩] [] 2181431069507584)
 (.cond (.t 51)
  (.seq (.seq (.region [⟨true, ⟨(some 52), .mov (.t 5), [], none⟩⟩,
    ⟨true, ⟨(some 53), .bin .neq (.t 52) (.c (.str [])), [0], none⟩⟩,
    ⟨true, ⟨(some 54), .mov (.t 53), [1], none⟩⟩,
    ⟨true, ⟨(some 55), .mov (.t 6), [2], (some (54, false))⟩⟩,
    ⟨true, ⟨(some 56), .bin .neq (.t 55) (.c (.int .i64 (.ofNat 11))), [3, 2], (some (54, false))⟩⟩,
    ⟨true, ⟨(some 57), .pick (.t 54) (.c (.bool true)) (.t 56), [2, 4], none⟩⟩,
    ⟨true, ⟨(some 58), .mov (.t 57), [5, 2], none⟩⟩,
    ⟨true, ⟨(some 59), .mov (.t 7), [6], (some (58, false))⟩⟩,
    ⟨true, ⟨(some 60), .mov (.t 8), [6], (some (58, false))⟩⟩,
    ⟨true, ⟨(some 61), .bin .add (.t 59) (.t 60), [7, 8, 6], (some (58, false))⟩⟩,
    ⟨true, ⟨(some 62), .bin .neq (.t 61) (.c (.int .i64 (.ofNat 0))), [9, 6], (some (58, false))⟩⟩,
    ⟨true, ⟨(some 63), .pick (.t 58) (.c (.bool true)) (.t 62), [6, 10], none⟩⟩,
    ⟨true, ⟨(some 64), .mov (.t 63), [11, 6], none⟩⟩,
    ⟨true, ⟨(some 65), .mov (.t 9), [12], (some (64, false))⟩⟩,
    ⟨true, ⟨(some 66), .bin .neq (.t 65) (.c (.int .i64 (.ofNat 11))), [13, 12], (some (64, false))⟩⟩,
    ⟨true, ⟨(some 67), .pick (.t 64) (.c (.bool true)) (.t 66), [12, 14], none⟩⟩] [] 147571700789862745059)
  (.cond (.t 67)
   (.seq (.region [⟨true, ⟨(some 4), .mov (.c (.bool false)), [], none⟩⟩] [] 147573952589676428288)
   .ret)
   .skip))
  (.region [⟨true, ⟨(some 14), .mov (.c (.int .i64 (.ofNat 11))), [], none⟩⟩] [] 147573952589676412944))
  (.seq (.region [⟨true, ⟨(some 69), .mov (.t 0), [], none⟩⟩,
    ⟨true, ⟨(some 70), .call .pure (.f 16) [(.t 69)], [0], none⟩⟩,
    ⟨true, ⟨(some 68), .mov (.t 70), [1], none⟩⟩,
    ⟨true, ⟨(some 71), .extract 0 (.t 68), [2], none⟩⟩,
    ⟨true, ⟨(some 72), .extract 1 (.t 68), [2], none⟩⟩,
    ⟨true, ⟨(some 15), .mov (.t 71), [3, 1, 0, 1, 2, 3], none⟩⟩,
    ⟨true, ⟨(some 16), .mov (.t 72), [4, 5, 0, 1, 2, 3, 4, 5], none⟩⟩] [] 9149587312359751286784)
  (.seq (.seq (.region [⟨true, ⟨(some 73), .mov (.t 5), [], none⟩⟩,
    ⟨true, ⟨(some 74), .bslice false .dyn 1 5 [(.str []), (.str []), (.str []), (.str []), (.str [])] [(0, 1, (.c (.str [102, 97, 99, 116, 111, 114, 121]))), (1, 1, (.c (.str [108, 105, 110, 101]))), (2, 1, (.c (.str [100, 105, 110, 105, 110, 103]))), (3, 1, (.c (.str [122, 111, 110, 101]))), (4, 1, (.c (.str [97, 108, 116, 101, 114, 110, 97, 116, 101])))], [], none⟩⟩,
    ⟨true, ⟨(some 75), .mov (.t 0), [], none⟩⟩,
    ⟨true, ⟨(some 76), .bin .sub (.t 75) (.c (.int .i64 (.ofNat 1))), [2], none⟩⟩,
    ⟨true, ⟨(some 77), .iaddr none 1 (.t 74) (.t 76), [1, 3], none⟩⟩,
    ⟨true, ⟨(some 78), .load none (.t 77), [4], none⟩⟩,
    ⟨true, ⟨(some 79), .bin .neq (.t 73) (.t 78), [0, 5], none⟩⟩,
    ⟨true, ⟨(some 80), .mov (.t 79), [6], none⟩⟩,
    ⟨true, ⟨(some 81), .mov (.t 6), [7], (some (80, false))⟩⟩,
    ⟨true, ⟨(some 82), .bin .neq (.t 81) (.c (.int .i64 (.ofNat 0))), [8, 7], (some (80, false))⟩⟩,
    ⟨true, ⟨(some 83), .pick (.t 80) (.c (.bool true)) (.t 82), [7, 9], none⟩⟩,
    ⟨true, ⟨(some 84), .mov (.t 83), [10, 7], none⟩⟩,
    ⟨true, ⟨(some 85), .mov (.t 7), [11], (some (84, false))⟩⟩,
    ⟨true, ⟨(some 86), .mov (.t 15), [11], (some (84, false))⟩⟩,
    ⟨true, ⟨(some 87), .bin .neq (.t 85) (.t 86), [12, 13, 11], (some (84, false))⟩⟩,
    ⟨true, ⟨(some 88), .pick (.t 84) (.c (.bool true)) (.t 87), [11, 14], none⟩⟩,
    ⟨true, ⟨(some 89), .mov (.t 88), [15, 11], none⟩⟩,
    ⟨true, ⟨(some 90), .mov (.t 8), [16], (some (89, false))⟩⟩,
    ⟨true, ⟨(some 91), .mov (.t 16), [16], (some (89, false))⟩⟩,
    ⟨true, ⟨(some 92), .bin .neq (.t 90) (.t 91), [17, 18, 16], (some (89, false))⟩⟩,
    ⟨true, ⟨(some 93), .pick (.t 89) (.c (.bool true)) (.t 92), [16, 19], none⟩⟩,
    ⟨true, ⟨(some 94), .mov (.t 93), [20, 16], none⟩⟩,
    ⟨true, ⟨(some 95), .mov (.t 9), [21], (some (94, false))⟩⟩,
    ⟨true, ⟨(some 96), .bin .neq (.t 95) (.c (.int .i64 (.ofNat 0))), [22, 21], (some (94, false))⟩⟩,
    ⟨true, ⟨(some 97), .pick (.t 94) (.c (.bool true)) (.t 96), [21, 23], none⟩⟩] [] 158456315583795709447797474273)
  (.cond (.t 97)
   (.seq (.region [⟨true, ⟨(some 4), .mov (.c (.bool false)), [], none⟩⟩] [] 158456325028528675187088030722)
   .ret)
   .skip))
  (.seq (.region [⟨true, ⟨(some 98), .mov (.t 1), [], none⟩⟩,
    ⟨true, ⟨(some 99), .mov (.t 15), [], none⟩⟩,
    ⟨true, ⟨(some 100), .bin .lss (.t 98) (.t 99), [0, 1], none⟩⟩,
    ⟨true, ⟨(some 101), .mov (.t 100), [2], none⟩⟩,
    ⟨true, ⟨(some 102), .mov (.t 1), [3], (some (101, false))⟩⟩,
    ⟨true, ⟨(some 103), .mov (.t 16), [3], (some (101, false))⟩⟩,
    ⟨true, ⟨(some 104), .bin .gtr (.t 102) (.t 103), [4, 5, 3], (some (101, false))⟩⟩,
    ⟨true, ⟨(some 105), .pick (.t 101) (.c (.bool true)) (.t 104), [3, 6], none⟩⟩] [] 40406362882274812172707414769682)
  (.cond (.t 105)
   (.region [⟨false, ⟨(some 14), .mov (.c (.int .i64 (.ofNat 2))), [], none⟩⟩] [] 40564819207303340847894502572032)
   .skip))))))
 (.seq (.seq (.region [⟨true, ⟨(some 106), .mov (.t 14), [], none⟩⟩,
   ⟨true, ⟨(some 107), .bin .neq (.t 106) (.c (.int .i64 (.ofNat 0))), [0], none⟩⟩] [] 121694457621910022543683507716096)
 (.cond (.t 107)
  (.seq (.region [⟨true, ⟨(some 108), .faddr 1 (.t 10), [], none⟩⟩,
    ⟨true, ⟨(some 109), .load none (.t 108), [0], none⟩⟩,
    ⟨true, ⟨(some 110), .len 1 (.t 109), [1], none⟩⟩,
    ⟨true, ⟨(some 111), .bin .eql (.t 110) (.c (.int .i64 (.ofNat 0))), [2], none⟩⟩,
    ⟨true, ⟨(some 112), .mov (.t 111), [3], none⟩⟩,
    ⟨true, ⟨(some 113), .mov (.t 11), [4], (some (112, true))⟩⟩,
    ⟨true, ⟨(some 114), .mov (.t 14), [4], (some (112, true))⟩⟩,
    ⟨true, ⟨(some 115), .bin .eql (.t 113) (.t 114), [5, 6, 4], (some (112, true))⟩⟩,
    ⟨true, ⟨(some 116), .pick (.t 112) (.t 115) (.c (.bool false)), [4, 7], none⟩⟩,
    ⟨true, ⟨(some 117), .mov (.t 116), [8, 4], none⟩⟩,
    ⟨true, ⟨(some 118), .faddr 0 (.t 12), [9], (some (117, true))⟩⟩,
    ⟨true, ⟨(some 119), .load none (.t 118), [10, 9], (some (117, true))⟩⟩,
    ⟨true, ⟨(some 120), .bin .eql (.t 119) (.c (.int .i64 (.ofNat 0))), [11, 9], (some (117, true))⟩⟩,
    ⟨true, ⟨(some 121), .pick (.t 117) (.t 120) (.c (.bool false)), [9, 12], none⟩⟩,
    ⟨true, ⟨(some 122), .mov (.t 121), [13, 9], none⟩⟩,
    ⟨true, ⟨(some 123), .faddr 4 (.t 12), [14], (some (122, true))⟩⟩,
    ⟨true, ⟨(some 124), .load none (.t 123), [15, 14], (some (122, true))⟩⟩,
    ⟨true, ⟨(some 125), .len 1 (.t 124), [16, 14], (some (122, true))⟩⟩,
    ⟨true, ⟨(some 126), .bin .eql (.t 125) (.c (.int .i64 (.ofNat 0))), [17, 14], (some (122, true))⟩⟩,
    ⟨true, ⟨(some 127), .pick (.t 122) (.t 126) (.c (.bool false)), [14, 18], none⟩⟩,
    ⟨true, ⟨(some 128), .mov (.t 127), [19, 14], none⟩⟩,
    ⟨true, ⟨(some 129), .mov (.t 13), [20], (some (128, true))⟩⟩,
    ⟨true, ⟨(some 130), .mov (.t 14), [20], (some (128, true))⟩⟩,
    ⟨true, ⟨(some 131), .bin .eql (.t 129) (.t 130), [21, 22, 20], (some (128, true))⟩⟩,
    ⟨true, ⟨(some 132), .pick (.t 128) (.t 131) (.c (.bool false)), [20, 23], none⟩⟩,
    ⟨true, ⟨(some 4), .mov (.t 132), [24, 20, 0, 1, 2, 3, 4, 5, 6, 7, 8, 9, 10, 11, 12, 13, 14, 15, 16, 17, 18, 19, 20, 21, 22, 23, 24], none⟩⟩] [] 10889035579210754001614624046238572510208)
  .ret)
  .skip))
 (.seq (.region [⟨true, ⟨(some 133), .mov (.t 11), [], none⟩⟩,
   ⟨true, ⟨(some 134), .bin .eql (.t 133) (.c (.int .i64 (.ofNat 0))), [0], none⟩⟩,
   ⟨true, ⟨(some 135), .mov (.t 134), [1], none⟩⟩,
   ⟨true, ⟨(some 136), .mov (.t 13), [2], (some (135, true))⟩⟩,
   ⟨true, ⟨(some 137), .bin .eql (.t 136) (.c (.int .i64 (.ofNat 0))), [3, 2], (some (135, true))⟩⟩,
   ⟨true, ⟨(some 138), .pick (.t 135) (.t 137) (.c (.bool false)), [2, 4], none⟩⟩,
   ⟨false, ⟨(some 4), .mov (.t 138), [5, 2, 0, 1, 2, 3, 4, 5], none⟩⟩] [] 686009251874871219171376571974022724615168)
 .ret)))))))))))⟩

-- overseer/overseerlaw59.CatalogueSame
def f5 : FFn := ⟨115, [.tmp 2],
 (.seq (.region [⟨true, ⟨(some 2), .mov (.c (.bool false)), [], none⟩⟩] [] 4)
 (.seq (.seq (.region [⟨true, ⟨(some 12), .call .pure (.f 7) [], [], none⟩⟩,
   ⟨true, ⟨(some 13), .un .not (.t 12), [0], none⟩⟩] [] 4096)
 (.cond (.t 13)
  (.seq (.region [⟨true, ⟨(some 2), .mov (.c (.bool false)), [], none⟩⟩] [] 8193)
  .ret)
  .skip))
 (.seq (.region [⟨true, ⟨(some 15), .call .pure (.f 14) [(.c (.int .i64 (.ofNat 1))), (.c (.int .i64 (.ofNat 1)))], [], none⟩⟩,
   ⟨true, ⟨(some 14), .mov (.t 15), [0], none⟩⟩,
   ⟨true, ⟨(some 16), .extract 0 (.t 14), [1], none⟩⟩,
   ⟨true, ⟨(some 17), .extract 1 (.t 14), [1], none⟩⟩,
   ⟨true, ⟨(some 3), .alloc .dyn (.agg [.nilsl, .nilsl, .nilsl, .nilsl, .nilsl]), [], none⟩⟩,
   ⟨false, ⟨none, .store 5 (.t 3) (.t 16), [4, 2, 0, 0, 1, 2, 4], none⟩⟩,
   ⟨true, ⟨(some 4), .mov (.t 17), [3, 5, 0, 1, 2, 3, 4, 5], none⟩⟩] [] 253956)
 (.seq (.region [⟨true, ⟨(some 19), .call .pure (.f 14) [(.c (.int .i64 (.ofNat 2))), (.c (.int .i64 (.ofNat 2)))], [], none⟩⟩,
   ⟨true, ⟨(some 18), .mov (.t 19), [0], none⟩⟩,
   ⟨true, ⟨(some 20), .extract 0 (.t 18), [1], none⟩⟩,
   ⟨true, ⟨(some 21), .extract 1 (.t 18), [1], none⟩⟩,
   ⟨true, ⟨(some 5), .alloc .dyn (.agg [.nilsl, .nilsl, .nilsl, .nilsl, .nilsl]), [], none⟩⟩,
   ⟨false, ⟨none, .store 5 (.t 5) (.t 20), [4, 2, 0, 0, 1, 2, 4], none⟩⟩,
   ⟨true, ⟨(some 6), .mov (.t 21), [3, 5, 0, 1, 2, 3, 4, 5], none⟩⟩] [] 3932160)
 (.seq (.region [⟨true, ⟨(some 22), .mov (.t 0), [], none⟩⟩,
   ⟨true, ⟨(some 23), .bin .rem (.t 22) (.c (.int .u8 (.ofNat 4))), [0], none⟩⟩,
   ⟨true, ⟨(some 24), .conv .i64 (.t 23), [1], none⟩⟩,
   ⟨true, ⟨(some 25), .bin .add (.c (.int .i64 (.ofNat 3))) (.t 24), [2], none⟩⟩,
   ⟨true, ⟨(some 7), .mov (.t 25), [3, 0, 1, 2, 3], none⟩⟩] [] 62914561)
 (.seq (.region [⟨true, ⟨(some 27), .mov (.t 7), [], none⟩⟩,
   ⟨true, ⟨(some 28), .call .pure (.f 14) [(.c (.int .i64 (.ofNat 2))), (.t 27)], [0], none⟩⟩,
   ⟨true, ⟨(some 26), .mov (.t 28), [1], none⟩⟩,
   ⟨true, ⟨(some 29), .extract 0 (.t 26), [2], none⟩⟩,
   ⟨true, ⟨(some 30), .extract 1 (.t 26), [2], none⟩⟩,
   ⟨true, ⟨(some 8), .alloc .dyn (.agg [.nilsl, .nilsl, .nilsl, .nilsl, .nilsl]), [], none⟩⟩,
   ⟨false, ⟨none, .store 5 (.t 8) (.t 29), [5, 3, 1, 0, 1, 2, 3, 5], none⟩⟩,
   ⟨true, ⟨(some 9), .mov (.t 30), [4, 6, 0, 1, 2, 3, 4, 5, 6], none⟩⟩] [] 2080374784)
 (.seq (.region [⟨true, ⟨(some 32), .mov (.t 7), [], none⟩⟩,
   ⟨true, ⟨(some 33), .bin .sub (.t 32) (.c (.int .i64 (.ofNat 1))), [0], none⟩⟩,
   ⟨true, ⟨(some 34), .call .pure (.f 14) [(.c (.int .i64 (.ofNat 2))), (.t 33)], [1], none⟩⟩,
   ⟨true, ⟨(some 31), .mov (.t 34), [2], none⟩⟩,
   ⟨true, ⟨(some 35), .extract 0 (.t 31), [3], none⟩⟩,
   ⟨true, ⟨(some 36), .extract 1 (.t 31), [3], none⟩⟩,
   ⟨true, ⟨(some 10), .alloc .dyn (.agg [.nilsl, .nilsl, .nilsl, .nilsl, .nilsl]), [], none⟩⟩,
   ⟨false, ⟨none, .store 5 (.t 10) (.t 35), [6, 4, 2, 0, 1, 2, 3, 4, 6], none⟩⟩,
   ⟨true, ⟨(some 11), .mov (.t 36), [5, 7, 0, 1, 2, 3, 4, 5, 6, 7], none⟩⟩] [] 135291469824)
 (.seq (.seq (.region [⟨true, ⟨(some 37), .mov (.t 4), [], none⟩⟩,
   ⟨true, ⟨(some 38), .bin .neq (.t 37) (.c (.int .i64 (.ofNat 0))), [0], none⟩⟩,
   ⟨true, ⟨(some 39), .mov (.t 38), [1], none⟩⟩,
   ⟨true, ⟨(some 40), .mov (.t 6), [2], (some (39, false))⟩⟩,
   ⟨true, ⟨(some 41), .bin .neq (.t 40) (.c (.int .i64 (.ofNat 0))), [3, 2], (some (39, false))⟩⟩,
   ⟨true, ⟨(some 42), .pick (.t 39) (.c (.bool true)) (.t 41), [2, 4], none⟩⟩,
   ⟨true, ⟨(some 43), .mov (.t 42), [5, 2], none⟩⟩,
   ⟨true, ⟨(some 44), .mov (.t 9), [6], (some (43, false))⟩⟩,
   ⟨true, ⟨(some 45), .bin .neq (.t 44) (.c (.int .i64 (.ofNat 0))), [7, 6], (some (43, false))⟩⟩,
   ⟨true, ⟨(some 46), .pick (.t 43) (.c (.bool true)) (.t 45), [6, 8], none⟩⟩,
   ⟨true, ⟨(some 47), .mov (.t 46), [9, 6], none⟩⟩,
   ⟨true, ⟨(some 48), .mov (.t 11), [10], (some (47, false))⟩⟩,
   ⟨true, ⟨(some 49), .bin .neq (.t 48) (.c (.int .i64 (.ofNat 0))), [11, 10], (some (47, false))⟩⟩,
   ⟨true, ⟨(some 50), .pick (.t 47) (.c (.bool true)) (.t 49), [10, 12], none⟩⟩,
   ⟨true, ⟨(some 51), .mov (.t 50), [13, 10], none⟩⟩,
   ⟨true, ⟨(some 52), .load (some 5) (.t 3), [14], (some (51, false))⟩⟩,
   ⟨true, ⟨(some 53), .load (some 5) (.t 5), [14], (some (51, false))⟩⟩,
   ⟨true, ⟨(some 54), .call .heap (.f 17) [(.t 52), (.t 53)], [15, 16, 14, 14], (some (51, false))⟩⟩,
   ⟨true, ⟨(some 55), .un .not (.t 54), [17, 14], (some (51, false))⟩⟩,
   ⟨true, ⟨(some 56), .pick (.t 51) (.c (.bool true)) (.t 55), [14, 18], none⟩⟩,
   ⟨true, ⟨(some 57), .mov (.t 56), [19, 17], none⟩⟩,
   ⟨true, ⟨(some 58), .faddr 1 (.t 8), [20], (some (57, false))⟩⟩,
   ⟨true, ⟨(some 59), .load none (.t 58), [21, 20], (some (57, false))⟩⟩,
   ⟨true, ⟨(some 60), .len 1 (.t 59), [22, 20], (some (57, false))⟩⟩,
   ⟨true, ⟨(some 61), .mov (.t 7), [20], (some (57, false))⟩⟩,
   ⟨true, ⟨(some 62), .bin .neq (.t 60) (.t 61), [23, 24, 20], (some (57, false))⟩⟩,
   ⟨true, ⟨(some 63), .pick (.t 57) (.c (.bool true)) (.t 62), [20, 25], none⟩⟩,
   ⟨true, ⟨(some 64), .mov (.t 63), [26, 20], none⟩⟩,
   ⟨true, ⟨(some 65), .faddr 2 (.t 8), [27], (some (64, false))⟩⟩,
   ⟨true, ⟨(some 66), .load none (.t 65), [28, 27], (some (64, false))⟩⟩,
   ⟨true, ⟨(some 67), .len 1 (.t 66), [29, 27], (some (64, false))⟩⟩,
   ⟨true, ⟨(some 68), .mov (.t 7), [27], (some (64, false))⟩⟩,
   ⟨true, ⟨(some 69), .bin .sub (.t 68) (.c (.int .i64 (.ofNat 1))), [31, 27], (some (64, false))⟩⟩,
   ⟨true, ⟨(some 70), .bin .neq (.t 67) (.t 69), [30, 32, 27], (some (64, false))⟩⟩,
   ⟨true, ⟨(some 71), .pick (.t 64) (.c (.bool true)) (.t 70), [27, 33], none⟩⟩,
   ⟨true, ⟨(some 72), .mov (.t 71), [34, 27], none⟩⟩,
   ⟨true, ⟨(some 73), .faddr 0 (.t 8), [35], (some (72, false))⟩⟩,
   ⟨true, ⟨(some 74), .load none (.t 73), [36, 35], (some (72, false))⟩⟩,
   ⟨true, ⟨(some 75), .len 1 (.t 74), [37, 35], (some (72, false))⟩⟩,
   ⟨true, ⟨(some 76), .mov (.t 7), [35], (some (72, false))⟩⟩,
   ⟨true, ⟨(some 77), .bin .mul (.c (.int .i64 (.ofNat 2))) (.t 76), [39, 35], (some (72, false))⟩⟩,
   ⟨true, ⟨(some 78), .bin .neq (.t 75) (.t 77), [38, 40, 35], (some (72, false))⟩⟩,
   ⟨true, ⟨(some 79), .pick (.t 72) (.c (.bool true)) (.t 78), [35, 41], none⟩⟩] [] 604462909807177148402296)
 (.cond (.t 79)
  (.seq (.region [⟨true, ⟨(some 2), .mov (.c (.bool false)), [], none⟩⟩] [] 604462909807314587354496)
  .ret)
  .skip))
 (.seq (.region [⟨true, ⟨(some 80), .faddr 1 (.t 8), [], none⟩⟩,
   ⟨true, ⟨(some 81), .load none (.t 80), [0], none⟩⟩,
   ⟨true, ⟨(some 82), .mov (.t 7), [], none⟩⟩,
   ⟨true, ⟨(some 83), .bin .sub (.t 82) (.c (.int .i64 (.ofNat 1))), [2], none⟩⟩,
   ⟨true, ⟨(some 84), .slice (some 5) (.t 81) none (some (.t 83)) none, [1, 3], none⟩⟩,
   ⟨true, ⟨(some 85), .faddr 2 (.t 8), [], none⟩⟩,
   ⟨true, ⟨(some 86), .load none (.t 85), [5], none⟩⟩,
   ⟨true, ⟨(some 87), .mov (.t 7), [], none⟩⟩,
   ⟨true, ⟨(some 88), .bin .sub (.t 87) (.c (.int .i64 (.ofNat 2))), [7], none⟩⟩,
   ⟨true, ⟨(some 89), .slice (some 5) (.t 86) none (some (.t 88)) none, [6, 8], none⟩⟩,
   ⟨true, ⟨(some 90), .faddr 0 (.t 8), [], none⟩⟩,
   ⟨true, ⟨(some 91), .load none (.t 90), [10], none⟩⟩,
   ⟨true, ⟨(some 92), .mov (.t 7), [], none⟩⟩,
   ⟨true, ⟨(some 93), .bin .mul (.c (.int .i64 (.ofNat 2))) (.t 92), [12], none⟩⟩,
   ⟨true, ⟨(some 94), .bin .sub (.t 93) (.c (.int .i64 (.ofNat 2))), [13], none⟩⟩,
   ⟨true, ⟨(some 95), .slice (some 5) (.t 91) none (some (.t 94)) none, [11, 14], none⟩⟩,
   ⟨true, ⟨(some 96), .faddr 1 (.t 8), [0, 1, 2, 3, 4, 5, 6, 10, 11], none⟩⟩,
   ⟨false, ⟨none, .store 1 (.t 96) (.t 84), [16, 4, 0, 1, 2, 3, 4, 5, 6, 10, 11], none⟩⟩,
   ⟨true, ⟨(some 97), .faddr 2 (.t 8), [0, 1, 2, 3, 4, 5, 6, 7, 8, 9, 10, 11, 16, 17], none⟩⟩,
   ⟨false, ⟨none, .store 1 (.t 97) (.t 89), [18, 9, 17, 0, 1, 2, 3, 4, 5, 6, 7, 8, 9, 10, 11, 16, 17], none⟩⟩,
   ⟨true, ⟨(some 98), .faddr 0 (.t 8), [0, 1, 2, 3, 4, 5, 6, 7, 8, 9, 10, 11, 12, 13, 14, 15, 16, 17, 18, 19], none⟩⟩,
   ⟨false, ⟨none, .store 1 (.t 98) (.t 95), [20, 15, 19, 0, 1, 2, 3, 4, 5, 6, 7, 8, 9, 10, 11, 12, 13, 14, 15, 16, 17, 18, 19], none⟩⟩] [] 633824695651204893433764249604)
 (.seq (.region [⟨true, ⟨(some 99), .load (some 5) (.t 8), [], none⟩⟩,
   ⟨true, ⟨(some 100), .load (some 5) (.t 10), [], none⟩⟩,
   ⟨true, ⟨(some 101), .call .heap (.f 17) [(.t 99), (.t 100)], [0, 1], none⟩⟩,
   ⟨true, ⟨(some 102), .mov (.t 101), [2, 2], none⟩⟩,
   ⟨true, ⟨(some 103), .faddr 1 (.t 8), [3], (some (102, true))⟩⟩,
   ⟨true, ⟨(some 104), .load none (.t 103), [4, 3], (some (102, true))⟩⟩,
   ⟨true, ⟨(some 105), .iaddr none 5 (.t 104) (.c (.int .i64 (.ofNat 0))), [5, 3], (some (102, true))⟩⟩,
   ⟨true, ⟨(some 106), .faddr 1 (.t 105), [6, 3], (some (102, true))⟩⟩,
   ⟨true, ⟨(some 107), .faddr 0 (.t 106), [7, 3], (some (102, true))⟩⟩,
   ⟨true, ⟨(some 108), .load none (.t 107), [8, 3], (some (102, true))⟩⟩,
   ⟨true, ⟨(some 109), .mov (.t 7), [3], (some (102, true))⟩⟩,
   ⟨true, ⟨(some 110), .bin .mul (.c (.int .i64 (.ofNat 2))) (.t 109), [10, 3], (some (102, true))⟩⟩,
   ⟨true, ⟨(some 111), .bin .sub (.t 110) (.c (.int .i64 (.ofNat 2))), [11, 3], (some (102, true))⟩⟩,
   ⟨true, ⟨(some 112), .call .heap (.f 18) [(.t 108), (.t 111)], [9, 12, 3, 3], (some (102, true))⟩⟩,
   ⟨true, ⟨(some 113), .un .not (.t 112), [13, 3], (some (102, true))⟩⟩,
   ⟨true, ⟨(some 114), .pick (.t 102) (.t 113) (.c (.bool false)), [3, 14], none⟩⟩,
   ⟨true, ⟨(some 2), .mov (.t 114), [15, 13, 0, 1, 2, 3, 4, 5, 6, 7, 8, 9, 10, 11, 12, 13, 14, 15], none⟩⟩] [] 41537741042978506913543222282159488)
 .ret))))))))))⟩

-- overseer/overseerlaw59.known
def f7 : FFn := ⟨123, [.tmp 0],
 (.seq (.region [⟨true, ⟨(some 0), .mov (.c (.bool false)), [], none⟩⟩] [] 1)
 (.seq (.region [⟨true, ⟨(some 15), .call .pure (.f 14) [(.c (.int .i64 (.ofNat 1))), (.c (.int .i64 (.ofNat 1)))], [], none⟩⟩,
   ⟨true, ⟨(some 14), .mov (.t 15), [0], none⟩⟩,
   ⟨true, ⟨(some 16), .extract 0 (.t 14), [1], none⟩⟩,
   ⟨true, ⟨(some 17), .extract 1 (.t 14), [1], none⟩⟩,
   ⟨true, ⟨(some 1), .alloc .dyn (.agg [.nilsl, .nilsl, .nilsl, .nilsl, .nilsl]), [], none⟩⟩,
   ⟨false, ⟨none, .store 5 (.t 1) (.t 16), [4, 2, 0, 0, 1, 2, 4], none⟩⟩,
   ⟨true, ⟨(some 2), .mov (.t 17), [3, 5, 0, 1, 2, 3, 4, 5], none⟩⟩] [] 245760)
 (.seq (.region [⟨true, ⟨(some 19), .call .pure (.f 9) [(.c (.int .i64 (.ofNat 1))), (.c (.int .i64 (.ofNat 1)))], [], none⟩⟩,
   ⟨true, ⟨(some 18), .mov (.t 19), [0], none⟩⟩,
   ⟨true, ⟨(some 20), .extract 0 (.t 18), [1], none⟩⟩,
   ⟨true, ⟨(some 21), .extract 1 (.t 18), [1], none⟩⟩,
   ⟨true, ⟨(some 3), .alloc .dyn (.agg [(.int .i64 (.ofNat 0)), (.int .i64 (.ofNat 0)), (.int .i64 (.ofNat 0)), (.int .i64 (.ofNat 0)), .nilsl]), [], none⟩⟩,
   ⟨false, ⟨none, .store 5 (.t 3) (.t 20), [4, 2, 0, 0, 1, 2, 4], none⟩⟩,
   ⟨true, ⟨(some 4), .mov (.t 21), [3, 5, 0, 1, 2, 3, 4, 5], none⟩⟩] [] 3932160)
 (.seq (.region [⟨true, ⟨(some 23), .call .pure (.f 14) [(.c (.int .i64 (.ofNat 3))), (.c (.int .i64 (.ofNat 2)))], [], none⟩⟩,
   ⟨true, ⟨(some 22), .mov (.t 23), [0], none⟩⟩,
   ⟨true, ⟨(some 24), .extract 0 (.t 22), [1], none⟩⟩,
   ⟨true, ⟨(some 25), .extract 1 (.t 22), [1], none⟩⟩,
   ⟨true, ⟨(some 5), .alloc .dyn (.agg [.nilsl, .nilsl, .nilsl, .nilsl, .nilsl]), [], none⟩⟩,
   ⟨false, ⟨none, .store 5 (.t 5) (.t 24), [4, 2, 0, 0, 1, 2, 4], none⟩⟩,
   ⟨true, ⟨(some 6), .mov (.t 25), [3, 5, 0, 1, 2, 3, 4, 5], none⟩⟩] [] 62914560)
 (.seq (.region [⟨true, ⟨(some 27), .call .heap (.f 20) [(.c (.int .i64 (.ofNat 3)))], [], none⟩⟩,
   ⟨true, ⟨(some 26), .mov (.t 27), [0], none⟩⟩,
   ⟨true, ⟨(some 28), .extract 0 (.t 26), [1], none⟩⟩,
   ⟨true, ⟨(some 29), .extract 1 (.t 26), [1], none⟩⟩,
   ⟨true, ⟨(some 7), .alloc .dyn (.agg [(.int .i64 (.ofNat 0)), (.int .i64 (.ofNat 0)), .nilsl, .nilsl]), [], none⟩⟩,
   ⟨false, ⟨none, .store 4 (.t 7) (.t 28), [4, 2, 0, 0, 1, 2, 4], none⟩⟩,
   ⟨true, ⟨(some 8), .mov (.t 29), [3, 5, 0, 1, 2, 3, 4, 5], none⟩⟩] [] 1006632960)
 (.seq (.region [⟨true, ⟨(some 31), .call .heap (.f 27) [(.c (.int .i64 (.ofNat 0)))], [], none⟩⟩,
   ⟨true, ⟨(some 30), .mov (.t 31), [0], none⟩⟩,
   ⟨true, ⟨(some 32), .extract 0 (.t 30), [1], none⟩⟩,
   ⟨true, ⟨(some 33), .extract 1 (.t 30), [1], none⟩⟩,
   ⟨true, ⟨(some 34), .extract 2 (.t 30), [1], none⟩⟩,
   ⟨true, ⟨(some 35), .extract 3 (.t 30), [1], none⟩⟩,
   ⟨true, ⟨(some 36), .extract 4 (.t 30), [1], none⟩⟩,
   ⟨true, ⟨(some 10), .alloc .dyn (.agg [.nilsl, (.int .i64 (.ofNat 0)), .nilsl, .nilsl]), [], none⟩⟩,
   ⟨true, ⟨(some 9), .mov (.t 32), [2, 0, 0, 1, 2, 7], none⟩⟩,
   ⟨false, ⟨none, .store 4 (.t 10) (.t 33), [7, 3, 8, 0, 1, 2, 3, 7, 8], none⟩⟩,
   ⟨true, ⟨(some 11), .mov (.t 34), [4, 9, 0, 1, 2, 3, 4, 7, 8, 9], none⟩⟩,
   ⟨true, ⟨(some 12), .mov (.t 35), [5, 10, 0, 1, 2, 3, 4, 5, 7, 8, 9, 10], none⟩⟩,
   ⟨true, ⟨(some 13), .mov (.t 36), [6, 11, 0, 1, 2, 3, 4, 5, 6, 7, 8, 9, 10, 11], none⟩⟩] [] 136365211648)
 (.seq (.region [⟨true, ⟨(some 37), .mov (.t 2), [], none⟩⟩,
   ⟨true, ⟨(some 38), .bin .eql (.t 37) (.c (.int .i64 (.ofNat 0))), [0], none⟩⟩,
   ⟨true, ⟨(some 39), .mov (.t 38), [1], none⟩⟩,
   ⟨true, ⟨(some 40), .faddr 1 (.t 1), [2], (some (39, true))⟩⟩,
   ⟨true, ⟨(some 41), .load none (.t 40), [3, 2], (some (39, true))⟩⟩,
   ⟨true, ⟨(some 42), .len 1 (.t 41), [4, 2], (some (39, true))⟩⟩,
   ⟨true, ⟨(some 43), .bin .eql (.t 42) (.c (.int .i64 (.ofNat 2))), [5, 2], (some (39, true))⟩⟩,
   ⟨true, ⟨(some 44), .pick (.t 39) (.t 43) (.c (.bool false)), [2, 6], none⟩⟩,
   ⟨true, ⟨(some 45), .mov (.t 44), [7, 2], none⟩⟩,
   ⟨true, ⟨(some 46), .faddr 2 (.t 1), [8], (some (45, true))⟩⟩,
   ⟨true, ⟨(some 47), .load none (.t 46), [9, 8], (some (45, true))⟩⟩,
   ⟨true, ⟨(some 48), .len 1 (.t 47), [10, 8], (some (45, true))⟩⟩,
   ⟨true, ⟨(some 49), .bin .eql (.t 48) (.c (.int .i64 (.ofNat 1))), [11, 8], (some (45, true))⟩⟩,
   ⟨true, ⟨(some 50), .pick (.t 45) (.t 49) (.c (.bool false)), [8, 12], none⟩⟩,
   ⟨true, ⟨(some 51), .mov (.t 50), [13, 8], none⟩⟩,
   ⟨true, ⟨(some 52), .mov (.t 4), [14], (some (51, true))⟩⟩,
   ⟨true, ⟨(some 53), .bin .eql (.t 52) (.c (.int .i64 (.ofNat 0))), [15, 14], (some (51, true))⟩⟩,
   ⟨true, ⟨(some 54), .pick (.t 51) (.t 53) (.c (.bool false)), [14, 16], none⟩⟩,
   ⟨true, ⟨(some 55), .mov (.t 54), [17, 14], none⟩⟩,
   ⟨true, ⟨(some 56), .faddr 0 (.t 3), [18], (some (55, true))⟩⟩,
   ⟨true, ⟨(some 57), .load none (.t 56), [19, 18], (some (55, true))⟩⟩,
   ⟨true, ⟨(some 58), .bin .eql (.t 57) (.c (.int .i64 (.ofNat 8))), [20, 18], (some (55, true))⟩⟩,
   ⟨true, ⟨(some 59), .pick (.t 55) (.t 58) (.c (.bool false)), [18, 21], none⟩⟩,
   ⟨true, ⟨(some 60), .mov (.t 59), [22, 18], none⟩⟩,
   ⟨true, ⟨(some 61), .faddr 2 (.t 3), [23], (some (60, true))⟩⟩,
   ⟨true, ⟨(some 62), .load none (.t 61), [24, 23], (some (60, true))⟩⟩,
   ⟨true, ⟨(some 63), .bin .eql (.t 62) (.c (.int .i64 (.ofNat 6))), [25, 23], (some (60, true))⟩⟩,
   ⟨true, ⟨(some 64), .pick (.t 60) (.t 63) (.c (.bool false)), [23, 26], none⟩⟩,
   ⟨true, ⟨(some 65), .mov (.t 64), [27, 23], none⟩⟩,
   ⟨true, ⟨(some 66), .faddr 4 (.t 3), [28], (some (65, true))⟩⟩,
   ⟨true, ⟨(some 67), .load none (.t 66), [29, 28], (some (65, true))⟩⟩,
   ⟨true, ⟨(some 68), .len 1 (.t 67), [30, 28], (some (65, true))⟩⟩,
   ⟨true, ⟨(some 69), .bin .eql (.t 68) (.c (.int .i64 (.ofNat 2))), [31, 28], (some (65, true))⟩⟩,
   ⟨true, ⟨(some 70), .pick (.t 65) (.t 69) (.c (.bool false)), [28, 32], none⟩⟩,
   ⟨true, ⟨(some 71), .mov (.t 70), [33, 28], none⟩⟩,
   ⟨true, ⟨(some 72), .mov (.t 6), [34], (some (71, true))⟩⟩,
   ⟨true, ⟨(some 73), .bin .eql (.t 72) (.c (.int .i64 (.ofNat 0))), [35, 34], (some (71, true))⟩⟩,
   ⟨true, ⟨(some 74), .pick (.t 71) (.t 73) (.c (.bool false)), [34, 36], none⟩⟩,
   ⟨true, ⟨(some 75), .mov (.t 74), [37, 34], none⟩⟩,
   ⟨true, ⟨(some 76), .faddr 1 (.t 5), [38], (some (75, true))⟩⟩,
   ⟨true, ⟨(some 77), .load none (.t 76), [39, 38], (some (75, true))⟩⟩,
   ⟨true, ⟨(some 78), .len 1 (.t 77), [40, 38], (some (75, true))⟩⟩,
   ⟨true, ⟨(some 79), .bin .eql (.t 78) (.c (.int .i64 (.ofNat 4))), [41, 38], (some (75, true))⟩⟩,
   ⟨true, ⟨(some 80), .pick (.t 75) (.t 79) (.c (.bool false)), [38, 42], none⟩⟩,
   ⟨true, ⟨(some 81), .mov (.t 80), [43, 38], none⟩⟩,
   ⟨true, ⟨(some 82), .faddr 1 (.t 5), [44], (some (81, true))⟩⟩,
   ⟨true, ⟨(some 83), .load none (.t 82), [45, 44], (some (81, true))⟩⟩,
   ⟨true, ⟨(some 84), .iaddr none 5 (.t 83) (.c (.int .i64 (.ofNat 2))), [46, 44], (some (81, true))⟩⟩,
   ⟨true, ⟨(some 85), .faddr 1 (.t 84), [47, 44], (some (81, true))⟩⟩,
   ⟨true, ⟨(some 86), .faddr 0 (.t 85), [48, 44], (some (81, true))⟩⟩,
   ⟨true, ⟨(some 87), .load none (.t 86), [49, 44], (some (81, true))⟩⟩,
   ⟨true, ⟨(some 88), .bslice false .dyn 1 4 [(.int .i64 (.ofNat 0)), (.int .i64 (.ofNat 0)), (.int .i64 (.ofNat 0)), (.int .i64 (.ofNat 0))] [(0, 1, (.c (.int .i64 (.ofNat 0)))), (1, 1, (.c (.int .i64 (.ofNat 2)))), (2, 1, (.c (.int .i64 (.ofNat 4)))), (3, 1, (.c (.int .i64 (.ofNat 5))))], [44], (some (81, true))⟩⟩,
   ⟨true, ⟨(some 89), .call .heap (.f 11) [(.t 87), (.t 88)], [50, 51, 44, 44], (some (81, true))⟩⟩,
   ⟨true, ⟨(some 90), .pick (.t 81) (.t 89) (.c (.bool false)), [44, 52], none⟩⟩,
   ⟨true, ⟨(some 91), .mov (.t 90), [53, 52], none⟩⟩,
   ⟨true, ⟨(some 92), .mov (.t 8), [54], (some (91, true))⟩⟩,
   ⟨true, ⟨(some 93), .bin .eql (.t 92) (.c (.int .i64 (.ofNat 0))), [55, 54], (some (91, true))⟩⟩,
   ⟨true, ⟨(some 94), .pick (.t 91) (.t 93) (.c (.bool false)), [54, 56], none⟩⟩,
   ⟨true, ⟨(some 95), .mov (.t 94), [57, 54], none⟩⟩,
   ⟨true, ⟨(some 96), .faddr 2 (.t 7), [58], (some (95, true))⟩⟩,
   ⟨true, ⟨(some 97), .load none (.t 96), [59, 58], (some (95, true))⟩⟩,
   ⟨true, ⟨(some 98), .bslice false .dyn 1 3 [(.int .i64 (.ofNat 0)), (.int .i64 (.ofNat 0)), (.int .i64 (.ofNat 0))] [(0, 1, (.c (.int .i64 (.ofNat 0)))), (1, 1, (.c (.int .i64 (.ofNat 3)))), (2, 1, (.c (.int .i64 (.ofNat 6))))], [58], (some (95, true))⟩⟩,
   ⟨true, ⟨(some 99), .call .heap (.f 11) [(.t 97), (.t 98)], [60, 61, 58, 58], (some (95, true))⟩⟩,
   ⟨true, ⟨(some 100), .pick (.t 95) (.t 99) (.c (.bool false)), [58, 62], none⟩⟩,
   ⟨true, ⟨(some 101), .mov (.t 100), [63, 62], none⟩⟩,
   ⟨true, ⟨(some 102), .mov (.t 13), [64], (some (101, true))⟩⟩,
   ⟨true, ⟨(some 103), .bin .eql (.t 102) (.c (.int .i64 (.ofNat 0))), [65, 64], (some (101, true))⟩⟩,
   ⟨true, ⟨(some 104), .pick (.t 101) (.t 103) (.c (.bool false)), [64, 66], none⟩⟩,
   ⟨true, ⟨(some 105), .mov (.t 104), [67, 64], none⟩⟩,
   ⟨true, ⟨(some 106), .mov (.t 9), [68], (some (105, true))⟩⟩,
   ⟨true, ⟨(some 107), .len 1 (.t 106), [69, 68], (some (105, true))⟩⟩,
   ⟨true, ⟨(some 108), .bin .eql (.t 107) (.c (.int .i64 (.ofNat 3))), [70, 68], (some (105, true))⟩⟩,
   ⟨true, ⟨(some 109), .pick (.t 105) (.t 108) (.c (.bool false)), [68, 71], none⟩⟩,
   ⟨true, ⟨(some 110), .mov (.t 109), [72, 68], none⟩⟩,
   ⟨true, ⟨(some 111), .faddr 1 (.t 10), [73], (some (110, true))⟩⟩,
   ⟨true, ⟨(some 112), .load none (.t 111), [74, 73], (some (110, true))⟩⟩,
   ⟨true, ⟨(some 113), .bin .eql (.t 112) (.c (.int .i64 (.ofNat 2))), [75, 73], (some (110, true))⟩⟩,
   ⟨true, ⟨(some 114), .pick (.t 110) (.t 113) (.c (.bool false)), [73, 76], none⟩⟩,
   ⟨true, ⟨(some 115), .mov (.t 114), [77, 73], none⟩⟩,
   ⟨true, ⟨(some 116), .mov (.t 11), [78], (some (115, true))⟩⟩,
   ⟨true, ⟨(some 117), .bin .eql (.t 116) (.c (.int .i64 (.ofNat 1))), [79, 78], (some (115, true))⟩⟩,
   ⟨true, ⟨(some 118), .pick (.t 115) (.t 117) (.c (.bool false)), [78, 80], none⟩⟩,
   ⟨true, ⟨(some 119), .mov (.t 118), [81, 78], none⟩⟩,
   ⟨true, ⟨(some 120), .mov (.t 12), [82], (some (119, true))⟩⟩,
   ⟨true, ⟨(some 121), .bin .eql (.t 120) (.c (.int .i64 (.ofNat 1))), [83, 82], (some (119, true))⟩⟩,
   ⟨true, ⟨(some 122), .pick (.t 119) (.t 121) (.c (.bool false)), [82, 84], none⟩⟩,
   ⟨true, ⟨(some 0), .mov (.t 122), [85, 82, 0, 1, 2, 3, 4, 5, 6, 7, 8, 9, 10, 11, 12, 13, 14, 15, 16, 17, 18, 19, 20, 21, 22, 23, 24, 25, 26, 27, 28, 29, 30, 31, 32, 33, 34, 35, 36, 37, 38, 39, 40, 41, 42, 43, 44, 45, 46, 47, 48, 49, 50, 51, 52, 53, 54, 55, 56, 57, 58, 59, 60, 61, 62, 63, 64, 65, 66, 67, 68, 69, 70, 71, 72, 73, 74, 75, 76, 77, 78, 79, 80, 81, 82, 83, 84, 85], none⟩⟩] [] 10633823966279326983230456344803819518)
 .ret)))))))⟩

-- overseer/overseerlaw59.Pick
def f8 : FFn := ⟨28, [.tmp 4, .tmp 5],
 (.seq (.region [⟨true, ⟨(some 4), .mov (.c (.int .i64 (.ofNat 0))), [], none⟩⟩,
   ⟨true, ⟨(some 5), .mov (.c (.int .i64 (.ofNat 0))), [0], none⟩⟩] [] 48)
 (.seq (.region [⟨true, ⟨(some 9), .mov (.t 0), [], none⟩⟩,
   ⟨true, ⟨(some 10), .bin .rem (.t 9) (.c (.int .u8 (.ofNat 5))), [0], none⟩⟩,
   ⟨true, ⟨(some 11), .conv .i64 (.t 10), [1], none⟩⟩,
   ⟨true, ⟨(some 12), .bin .add (.c (.int .i64 (.ofNat 1))) (.t 11), [2], none⟩⟩,
   ⟨true, ⟨(some 6), .mov (.t 12), [3, 0, 1, 2, 3], none⟩⟩] [] 7681)
 (.seq (.region [⟨true, ⟨(some 14), .mov (.t 6), [], none⟩⟩,
   ⟨true, ⟨(some 15), .call .pure (.f 16) [(.t 14)], [0], none⟩⟩,
   ⟨true, ⟨(some 13), .mov (.t 15), [1], none⟩⟩,
   ⟨true, ⟨(some 16), .extract 0 (.t 13), [2], none⟩⟩,
   ⟨true, ⟨(some 17), .extract 1 (.t 13), [2], none⟩⟩,
   ⟨true, ⟨(some 7), .mov (.t 16), [3, 1, 0, 1, 2, 3], none⟩⟩,
   ⟨true, ⟨(some 8), .mov (.t 17), [4, 5, 0, 1, 2, 3, 4, 5], none⟩⟩] [] 253952)
 (.seq (.region [⟨true, ⟨(some 18), .mov (.t 6), [], none⟩⟩,
   ⟨true, ⟨(some 19), .mov (.t 7), [], none⟩⟩,
   ⟨true, ⟨(some 20), .mov (.t 1), [], none⟩⟩,
   ⟨true, ⟨(some 21), .conv .i64 (.t 20), [2], none⟩⟩,
   ⟨true, ⟨(some 22), .mov (.t 8), [], none⟩⟩,
   ⟨true, ⟨(some 23), .mov (.t 7), [], none⟩⟩,
   ⟨true, ⟨(some 24), .bin .sub (.t 22) (.t 23), [4, 5], none⟩⟩,
   ⟨true, ⟨(some 25), .bin .add (.t 24) (.c (.int .i64 (.ofNat 1))), [6], none⟩⟩,
   ⟨true, ⟨(some 26), .bin .rem (.t 21) (.t 25), [3, 7], none⟩⟩,
   ⟨true, ⟨(some 27), .bin .add (.t 19) (.t 26), [1, 8], none⟩⟩,
   ⟨true, ⟨(some 4), .mov (.t 18), [0, 0], none⟩⟩,
   ⟨true, ⟨(some 5), .mov (.t 27), [9, 10, 0, 1, 2, 3, 4, 5, 6, 7, 8, 9, 10], none⟩⟩] [] 268173762)
 .ret))))⟩

-- overseer/catalogue.Known
def f9 : FFn := ⟨124, [.cell 4 (some 5), .tmp 5],
 (.seq (.region [⟨true, ⟨(some 4), .alloc .dyn (.agg [(.int .i64 (.ofNat 0)), (.int .i64 (.ofNat 0)), (.int .i64 (.ofNat 0)), (.int .i64 (.ofNat 0)), .nilsl]), [], none⟩⟩,
   ⟨true, ⟨(some 5), .mov (.c (.int .i64 (.ofNat 0))), [], none⟩⟩] [] 32)
 (.seq (.seq (.region [⟨true, ⟨(some 14), .mov (.t 0), [], none⟩⟩,
   ⟨true, ⟨(some 15), .mov (.t 1), [], none⟩⟩,
   ⟨true, ⟨(some 16), .call .pure (.f 28) [(.t 14), (.t 15)], [0, 1], none⟩⟩,
   ⟨true, ⟨(some 6), .mov (.t 16), [2, 2, 0, 1, 2], none⟩⟩] [] 114688)
 (.seq (.region [⟨true, ⟨(some 17), .mov (.t 6), [], none⟩⟩,
   ⟨true, ⟨(some 18), .bin .neq (.t 17) (.c (.int .i64 (.ofNat 0))), [0], none⟩⟩] [] 131072)
 (.cond (.t 18)
  (.seq (.region [⟨true, ⟨(some 19), .build [(.int .i64 (.ofNat 0)), (.int .i64 (.ofNat 0)), (.int .i64 (.ofNat 0)), (.int .i64 (.ofNat 0)), .nilsl] [], [], none⟩⟩,
    ⟨true, ⟨(some 20), .mov (.t 6), [], none⟩⟩,
    ⟨false, ⟨none, .store 5 (.t 4) (.t 19), [0, 0], none⟩⟩,
    ⟨true, ⟨(some 5), .mov (.t 20), [1, 2, 0, 1, 2], none⟩⟩] [] 1835075)
  .ret)
  .skip)))
 (.seq (.region [⟨true, ⟨(some 21), .mov (.t 1), [], none⟩⟩,
   ⟨true, ⟨(some 7), .mov (.t 21), [0, 0], none⟩⟩] [] 2359394)
 (.seq (.seq (.region [⟨true, ⟨(some 22), .mov (.t 0), [], none⟩⟩] [] 1)
 (.block 0 (.seq (.region [⟨true, ⟨(some 24), .bin .eql (.t 22) (.c (.int .i64 (.ofNat 1))), [], none⟩⟩,
   ⟨true, ⟨(some 23), .mov (.t 24), [0], none⟩⟩] [] 16777216)
 (.cond (.t 23)
  (.seq (.region [⟨true, ⟨(some 25), .build [.nilsl, (.int .i64 (.ofNat 0))] [(1, 1, (.c (.int .i64 (.ofNat 0))))], [], none⟩⟩,
    ⟨true, ⟨(some 8), .alloc .dyn (.agg [.nilsl, (.int .i64 (.ofNat 0))]), [], none⟩⟩,
    ⟨false, ⟨none, .store 2 (.t 8) (.t 25), [1, 0, 0, 1], none⟩⟩] [] 46137344)
  (.seq (.seq (.region [⟨true, ⟨(some 26), .mov (.t 7), [], none⟩⟩,
    ⟨true, ⟨(some 27), .mov (.c (.int .i64 (.ofNat 0))), [], none⟩⟩] [] 0)
  (.block 1 (.loop (.seq (.region [⟨true, ⟨(some 28), .bin .lss (.t 27) (.t 26), [], none⟩⟩] [] 0)
  (.seq (.cond (.t 28)
   .skip
   (.exit 1))
  (.seq (.block 2 (.region [⟨true, ⟨(some 29), .faddr 0 (.t 8), [], none⟩⟩,
    ⟨true, ⟨(some 30), .load none (.t 29), [0], none⟩⟩,
    ⟨true, ⟨(some 31), .bslice false .dyn 1 2 [(.int .i64 (.ofNat 0)), (.int .i64 (.ofNat 0))] [(0, 1, (.c (.int .i64 (.ofNat 0)))), (1, 1, (.c (.int .i64 (.ofNat 1))))], [], none⟩⟩,
    ⟨true, ⟨(some 32), .append .dyn 1 8 (.t 30) (.t 31), [1, 2], none⟩⟩,
    ⟨true, ⟨(some 33), .faddr 0 (.t 8), [0, 1, 2, 3], none⟩⟩,
    ⟨false, ⟨none, .store 1 (.t 33) (.t 32), [4, 3, 3, 0, 1, 2, 3], none⟩⟩] [] 16911433728))
  (.region [⟨true, ⟨(some 34), .bin .add (.t 27) (.c (.int .i64 (.ofNat 1))), [], none⟩⟩,
    ⟨false, ⟨(some 27), .mov (.t 34), [0], none⟩⟩] [] 17179869184)))))))
  (.seq (.region [⟨true, ⟨(some 35), .mov (.t 7), [], none⟩⟩,
    ⟨true, ⟨(some 36), .bin .add (.t 35) (.c (.int .i64 (.ofNat 1))), [0], none⟩⟩,
    ⟨true, ⟨(some 37), .bin .mul (.c (.int .i64 (.ofNat 4))) (.t 36), [1], none⟩⟩,
    ⟨true, ⟨(some 38), .mov (.t 7), [], none⟩⟩,
    ⟨true, ⟨(some 39), .bin .mul (.c (.int .i64 (.ofNat 4))) (.t 38), [3], none⟩⟩,
    ⟨true, ⟨(some 40), .bin .add (.t 39) (.c (.int .i64 (.ofNat 2))), [4], none⟩⟩,
    ⟨true, ⟨(some 41), .build [.nilsl, (.int .i64 (.ofNat 0))] [(1, 1, (.c (.int .i64 (.ofNat 2))))], [], none⟩⟩,
    ⟨true, ⟨(some 42), .load (some 2) (.t 8), [], none⟩⟩,
    ⟨true, ⟨(some 43), .bslice false .dyn 2 2 [.nilsl, (.int .i64 (.ofNat 0)), .nilsl, (.int .i64 (.ofNat 0))] [(0, 2, (.t 41)), (2, 2, (.t 42))], [6, 7], none⟩⟩,
    ⟨true, ⟨(some 44), .call .heap (.f 29) [(.t 37), (.t 40), (.c (.int .i64 (.ofNat 2))), (.t 43)], [2, 5, 8], none⟩⟩,
    ⟨false, ⟨none, .store 5 (.t 4) (.t 44), [9, 9, 0, 1, 2, 3, 4, 5, 6, 7, 8, 9], none⟩⟩,
    ⟨true, ⟨(some 5), .mov (.c (.int .i64 (.ofNat 0))), [10, 0, 1, 2, 3, 4, 5, 6, 7, 8, 9, 10], none⟩⟩] [] 35150213677440)
  .ret)))
  (.seq (.region [⟨true, ⟨(some 46), .bin .eql (.t 22) (.c (.int .i64 (.ofNat 2))), [], none⟩⟩,
    ⟨true, ⟨(some 45), .mov (.t 46), [0], none⟩⟩] [] 70368752566272)
  (.cond (.t 45)
   (.seq (.region [⟨true, ⟨(some 47), .mov (.t 7), [], none⟩⟩,
     ⟨true, ⟨(some 48), .bin .mul (.c (.int .i64 (.ofNat 2))) (.t 47), [0], none⟩⟩,
     ⟨true, ⟨(some 49), .bin .sub (.t 48) (.c (.int .i64 (.ofNat 1))), [1], none⟩⟩,
     ⟨true, ⟨(some 50), .call .pure (.f 30) [(.c (.int .i64 (.ofNat 2))), (.t 49)], [2], none⟩⟩,
     ⟨true, ⟨(some 51), .mov (.t 7), [], none⟩⟩,
     ⟨true, ⟨(some 52), .bin .sub (.t 51) (.c (.int .i64 (.ofNat 1))), [4], none⟩⟩,
     ⟨true, ⟨(some 53), .call .pure (.f 30) [(.c (.int .i64 (.ofNat 3))), (.t 52)], [5, 3], none⟩⟩,
     ⟨true, ⟨(some 54), .bin .mul (.c (.int .i64 (.ofNat 2))) (.t 53), [6], none⟩⟩,
     ⟨true, ⟨(some 9), .mov (.t 50), [3, 6, 0, 1, 2, 3], none⟩⟩,
     ⟨true, ⟨(some 10), .mov (.t 54), [7, 8, 0, 1, 2, 3, 4, 5, 6, 7, 8], none⟩⟩] [] 35923243906891776)
   (.seq (.region [⟨true, ⟨(some 55), .mov (.t 9), [], none⟩⟩,
     ⟨true, ⟨(some 56), .mov (.t 10), [], none⟩⟩,
     ⟨true, ⟨(some 57), .mov (.t 9), [], none⟩⟩,
     ⟨true, ⟨(some 58), .mov (.t 10), [], none⟩⟩,
     ⟨true, ⟨(some 59), .bin .sub (.t 57) (.t 58), [2, 3], none⟩⟩,
     ⟨true, ⟨(some 60), .mov (.t 7), [], none⟩⟩,
     ⟨true, ⟨(some 61), .bin .mul (.c (.int .i64 (.ofNat 2))) (.t 60), [5], none⟩⟩,
     ⟨true, ⟨(some 62), .bin .sub (.t 61) (.c (.int .i64 (.ofNat 2))), [6], none⟩⟩,
     ⟨true, ⟨(some 63), .build [.nilsl, (.int .i64 (.ofNat 0))] [(1, 1, (.t 62))], [7], none⟩⟩,
     ⟨true, ⟨(some 64), .bslice false .dyn 1 2 [(.int .i64 (.ofNat 0)), (.int .i64 (.ofNat 0))] [(0, 1, (.c (.int .i64 (.ofNat 0)))), (1, 1, (.c (.int .i64 (.ofNat 1))))], [], none⟩⟩,
     ⟨true, ⟨(some 65), .build [.nilsl, (.int .i64 (.ofNat 0))] [(0, 1, (.t 64)), (1, 1, (.c (.int .i64 (.ofNat 0))))], [9], none⟩⟩,
     ⟨true, ⟨(some 66), .bslice false .dyn 2 2 [.nilsl, (.int .i64 (.ofNat 0)), .nilsl, (.int .i64 (.ofNat 0))] [(0, 2, (.t 63)), (2, 2, (.t 65))], [8, 10], none⟩⟩,
     ⟨true, ⟨(some 67), .call .heap (.f 29) [(.t 55), (.t 56), (.t 59), (.t 66)], [0, 1, 4, 11], none⟩⟩,
     ⟨false, ⟨none, .store 5 (.t 4) (.t 67), [12, 12, 0, 1, 2, 3, 4, 5, 6, 7, 8, 9, 10, 11, 12], none⟩⟩,
     ⟨true, ⟨(some 5), .mov (.c (.int .i64 (.ofNat 0))), [13, 0, 1, 2, 3, 4, 5, 6, 7, 8, 9, 10, 11, 12, 13], none⟩⟩] [] 295111876382333863552)
   .ret))
   (.seq (.region [⟨true, ⟨(some 69), .bin .eql (.t 22) (.c (.int .i64 (.ofNat 3))), [], none⟩⟩,
     ⟨true, ⟨(some 68), .mov (.t 69), [0], none⟩⟩] [] 590295845543077740544)
   (.cond (.t 68)
    (.seq (.region [⟨true, ⟨(some 70), .bslice false .dyn 1 3 [(.int .i64 (.ofNat 0)), (.int .i64 (.ofNat 0)), (.int .i64 (.ofNat 0))] [(0, 1, (.c (.int .i64 (.ofNat 6)))), (1, 1, (.c (.int .i64 (.ofNat 14)))), (2, 1, (.c (.int .i64 (.ofNat 34))))], [], none⟩⟩,
      ⟨true, ⟨(some 71), .mov (.t 7), [], none⟩⟩,
      ⟨true, ⟨(some 72), .bin .sub (.t 71) (.c (.int .i64 (.ofNat 2))), [1], none⟩⟩,
      ⟨true, ⟨(some 73), .iaddr none 1 (.t 70) (.t 72), [0, 2], none⟩⟩,
      ⟨true, ⟨(some 74), .load none (.t 73), [3], none⟩⟩,
      ⟨true, ⟨(some 11), .mov (.t 74), [4, 0, 1, 2, 3, 4], none⟩⟩] [] 36893488147419107426304)
    (.seq (.region [⟨true, ⟨(some 75), .mov (.t 7), [], none⟩⟩,
      ⟨true, ⟨(some 76), .bin .sub (.t 75) (.c (.int .i64 (.ofNat 1))), [0], none⟩⟩,
      ⟨true, ⟨(some 77), .bin .mul (.c (.int .i64 (.ofNat 3))) (.t 76), [1], none⟩⟩,
      ⟨true, ⟨(some 78), .build [.nilsl, (.int .i64 (.ofNat 0))] [(1, 1, (.t 77))], [2], none⟩⟩,
      ⟨true, ⟨(some 12), .alloc .dyn (.agg [.nilsl, (.int .i64 (.ofNat 0))]), [], none⟩⟩,
      ⟨false, ⟨none, .store 2 (.t 12) (.t 78), [4, 3, 0, 1, 2, 3, 4], none⟩⟩] [] 566683977944357425643520)
    (.seq (.seq (.region [⟨true, ⟨(some 79), .mov (.t 7), [], none⟩⟩,
      ⟨true, ⟨(some 80), .bin .sub (.t 79) (.c (.int .i64 (.ofNat 1))), [0], none⟩⟩,
      ⟨true, ⟨(some 81), .mov (.c (.int .i64 (.ofNat 0))), [], none⟩⟩] [] 604462909807314587353216)
    (.block 3 (.loop (.seq (.region [⟨true, ⟨(some 82), .bin .lss (.t 81) (.t 80), [], none⟩⟩] [] 0)
    (.seq (.cond (.t 82)
     .skip
     (.exit 3))
    (.seq (.block 4 (.seq (.region [⟨true, ⟨(some 83), .mov (.t 81), [], none⟩⟩,
      ⟨true, ⟨(some 13), .mov (.t 83), [0, 0], none⟩⟩] [] 14507109835375550096474112)
    (.region [⟨true, ⟨(some 84), .faddr 0 (.t 12), [], none⟩⟩,
      ⟨true, ⟨(some 85), .load none (.t 84), [0], none⟩⟩,
      ⟨true, ⟨(some 86), .mov (.t 13), [], none⟩⟩,
      ⟨true, ⟨(some 87), .bin .mul (.c (.int .i64 (.ofNat 3))) (.t 86), [2], none⟩⟩,
      ⟨true, ⟨(some 88), .bslice false .dyn 1 1 [(.int .i64 (.ofNat 0))] [(0, 1, (.t 87))], [3], none⟩⟩,
      ⟨true, ⟨(some 89), .append .dyn 1 8 (.t 85) (.t 88), [1, 4], none⟩⟩,
      ⟨true, ⟨(some 90), .faddr 0 (.t 12), [0, 1, 2, 3, 4, 5], none⟩⟩,
      ⟨false, ⟨none, .store 1 (.t 90) (.t 89), [6, 5, 5, 0, 1, 2, 3, 4, 5], none⟩⟩] [] 2456537265456926483002957824)))
    (.region [⟨true, ⟨(some 91), .bin .add (.t 81) (.c (.int .i64 (.ofNat 1))), [], none⟩⟩,
      ⟨false, ⟨(some 81), .mov (.t 91), [0], none⟩⟩] [] 2475880078570760549798248448)))))))
    (.seq (.region [⟨true, ⟨(some 92), .mov (.t 11), [], none⟩⟩,
      ⟨true, ⟨(some 93), .mov (.t 11), [], none⟩⟩,
      ⟨true, ⟨(some 94), .bin .sub (.t 93) (.c (.int .i64 (.ofNat 1))), [1], none⟩⟩,
      ⟨true, ⟨(some 95), .load (some 2) (.t 12), [], none⟩⟩,
      ⟨true, ⟨(some 96), .bslice false .dyn 2 1 [.nilsl, (.int .i64 (.ofNat 0))] [(0, 2, (.t 95))], [3], none⟩⟩,
      ⟨true, ⟨(some 97), .call .heap (.f 29) [(.t 92), (.t 94), (.c (.int .i64 (.ofNat 0))), (.t 96)], [0, 2, 4], none⟩⟩,
      ⟨false, ⟨none, .store 5 (.t 4) (.t 97), [5, 5, 0, 1, 2, 3, 4, 5], none⟩⟩,
      ⟨true, ⟨(some 5), .mov (.c (.int .i64 (.ofNat 0))), [6, 0, 1, 2, 3, 4, 5, 6], none⟩⟩] [] 311964516677374673162103429120)
    .ret))))
    (.seq (.region [⟨true, ⟨(some 99), .bin .eql (.t 22) (.c (.int .i64 (.ofNat 4))), [], none⟩⟩,
      ⟨true, ⟨(some 98), .mov (.t 99), [0], none⟩⟩] [] 633825300409262605927708622848)
    (.cond (.t 98)
     (.seq (.region [⟨true, ⟨(some 100), .mov (.t 7), [], none⟩⟩,
       ⟨true, ⟨(some 101), .call .pure (.f 30) [(.c (.int .i64 (.ofNat 2))), (.t 100)], [0], none⟩⟩,
       ⟨true, ⟨(some 102), .mov (.t 7), [], none⟩⟩,
       ⟨true, ⟨(some 103), .bin .add (.t 102) (.c (.int .i64 (.ofNat 1))), [2], none⟩⟩,
       ⟨true, ⟨(some 104), .mov (.t 7), [], none⟩⟩,
       ⟨true, ⟨(some 105), .call .pure (.f 30) [(.c (.int .i64 (.ofNat 2))), (.t 104)], [4, 1], none⟩⟩,
       ⟨true, ⟨(some 106), .mov (.t 7), [], none⟩⟩,
       ⟨true, ⟨(some 107), .bin .sub (.t 105) (.t 106), [5, 6], none⟩⟩,
       ⟨true, ⟨(some 108), .bin .sub (.t 107) (.c (.int .i64 (.ofNat 1))), [7], none⟩⟩,
       ⟨true, ⟨(some 109), .bslice false .dyn 1 1 [(.int .i64 (.ofNat 0))] [(0, 1, (.c (.int .i64 (.ofNat 0))))], [], none⟩⟩,
       ⟨true, ⟨(some 110), .build [.nilsl, (.int .i64 (.ofNat 0))] [(0, 1, (.t 109)), (1, 1, (.c (.int .i64 (.ofNat 2))))], [9], none⟩⟩,
       ⟨true, ⟨(some 111), .bslice false .dyn 2 1 [.nilsl, (.int .i64 (.ofNat 0))] [(0, 2, (.t 110))], [10], none⟩⟩,
       ⟨true, ⟨(some 112), .call .heap (.f 29) [(.t 101), (.t 103), (.t 108), (.t 111)], [1, 3, 8, 11, 5], none⟩⟩,
       ⟨false, ⟨none, .store 5 (.t 4) (.t 112), [12, 12, 0, 1, 2, 3, 4, 5, 6, 7, 8, 9, 10, 11, 12], none⟩⟩,
       ⟨true, ⟨(some 5), .mov (.c (.int .i64 (.ofNat 0))), [13, 0, 1, 2, 3, 4, 5, 6, 7, 8, 9, 10, 11, 12, 13], none⟩⟩] [] 10383642979119484085009870131036288)
     .ret)
     .skip))))))))))
 (.seq (.region [⟨true, ⟨(some 113), .mov (.t 7), [], none⟩⟩,
   ⟨true, ⟨(some 114), .mov (.t 7), [], none⟩⟩,
   ⟨true, ⟨(some 115), .call .pure (.f 30) [(.c (.int .i64 (.ofNat 2))), (.t 114)], [1], none⟩⟩,
   ⟨true, ⟨(some 116), .bin .mul (.t 113) (.t 115), [0, 2], none⟩⟩,
   ⟨true, ⟨(some 117), .mov (.t 7), [], none⟩⟩,
   ⟨true, ⟨(some 118), .mov (.t 7), [], none⟩⟩,
   ⟨true, ⟨(some 119), .call .pure (.f 30) [(.c (.int .i64 (.ofNat 2))), (.t 118)], [5, 2], none⟩⟩,
   ⟨true, ⟨(some 120), .bin .mul (.t 117) (.t 119), [4, 6], none⟩⟩,
   ⟨true, ⟨(some 121), .build [.nilsl, (.int .i64 (.ofNat 0))] [(1, 1, (.c (.int .i64 (.ofNat 2))))], [], none⟩⟩,
   ⟨true, ⟨(some 122), .bslice false .dyn 2 1 [.nilsl, (.int .i64 (.ofNat 0))] [(0, 2, (.t 121))], [8], none⟩⟩,
   ⟨true, ⟨(some 123), .call .heap (.f 29) [(.t 116), (.t 120), (.c (.int .i64 (.ofNat 0))), (.t 122)], [3, 7, 9, 6], none⟩⟩,
   ⟨false, ⟨none, .store 5 (.t 4) (.t 123), [10, 10, 0, 1, 2, 3, 4, 5, 6, 7, 8, 9, 10], none⟩⟩,
   ⟨false, ⟨(some 5), .mov (.c (.int .i64 (.ofNat 0))), [11, 0, 1, 2, 3, 4, 5, 6, 7, 8, 9, 10, 11], none⟩⟩] [] 21257263655754234368261202346002874496)
 .ret)))))⟩

-- overseer/overseerlaw59.facts
def f10 : FFn := ⟨112, [.cell 4 (some 5)],
 (.seq (.region [⟨true, ⟨(some 4), .alloc .dyn (.agg [(.int .i64 (.ofNat 0)), (.int .i64 (.ofNat 0)), (.int .i64 (.ofNat 0)), (.int .i64 (.ofNat 0)), .nilsl]), [], none⟩⟩] [] 0)
 (.seq (.region [⟨true, ⟨(some 5), .alloc .dyn (.agg [(.int .i64 (.ofNat 0)), (.int .i64 (.ofNat 0)), (.int .i64 (.ofNat 0)), (.int .i64 (.ofNat 0)), .nilsl]), [], none⟩⟩] [] 0)
 (.seq (.seq (.region [⟨true, ⟨(some 11), .mov (.t 0), [], none⟩⟩] [] 1)
 (.block 0 (.seq (.region [⟨true, ⟨(some 24), .bin .eql (.t 11) (.c (.int .i64 (.ofNat 1))), [], none⟩⟩,
   ⟨true, ⟨(some 23), .mov (.t 24), [0], none⟩⟩] [] 16777216)
 (.cond (.t 23)
  (.seq (.region [⟨true, ⟨(some 6), .mov (.c .nilsl), [], none⟩⟩] [] 8390656)
  (.seq (.seq (.region [⟨true, ⟨(some 7), .mov (.c (.int .i64 (.ofNat 0))), [], none⟩⟩] [] 0)
  (.block 1 (.loop (.seq (.seq (.region [⟨true, ⟨(some 25), .mov (.t 7), [], none⟩⟩,
    ⟨true, ⟨(some 26), .mov (.t 1), [], none⟩⟩,
    ⟨true, ⟨(some 27), .bin .lss (.t 25) (.t 26), [0, 1], none⟩⟩] [] 100663296)
  (.cond (.t 27)
   .skip
   (.exit 1)))
  (.seq (.block 2 (.region [⟨true, ⟨(some 30), .mov (.t 6), [], none⟩⟩,
    ⟨true, ⟨(some 31), .bslice false .dyn 1 2 [(.int .i64 (.ofNat 0)), (.int .i64 (.ofNat 0))] [(0, 1, (.c (.int .i64 (.ofNat 0)))), (1, 1, (.c (.int .i64 (.ofNat 1))))], [], none⟩⟩,
    ⟨true, ⟨(some 32), .append .dyn 1 8 (.t 30) (.t 31), [0, 1], none⟩⟩,
    ⟨false, ⟨(some 6), .mov (.t 32), [2, 2, 0, 1, 2], none⟩⟩] [] 7650410496))
  (.region [⟨true, ⟨(some 28), .mov (.t 7), [], none⟩⟩,
    ⟨true, ⟨(some 29), .bin .add (.t 28) (.c (.int .i64 (.ofNat 1))), [0], none⟩⟩,
    ⟨false, ⟨(some 7), .mov (.t 29), [1, 0, 1], none⟩⟩] [] 805306368))))))
  (.region [⟨true, ⟨(some 33), .mov (.t 1), [], none⟩⟩,
    ⟨true, ⟨(some 34), .bin .add (.t 33) (.c (.int .i64 (.ofNat 1))), [0], none⟩⟩,
    ⟨true, ⟨(some 35), .bin .mul (.c (.int .i64 (.ofNat 4))) (.t 34), [1], none⟩⟩,
    ⟨true, ⟨(some 36), .mov (.t 1), [], none⟩⟩,
    ⟨true, ⟨(some 37), .bin .mul (.c (.int .i64 (.ofNat 4))) (.t 36), [3], none⟩⟩,
    ⟨true, ⟨(some 38), .bin .add (.t 37) (.c (.int .i64 (.ofNat 2))), [4], none⟩⟩,
    ⟨true, ⟨(some 39), .build [.nilsl, (.int .i64 (.ofNat 0))] [(1, 1, (.c (.int .i64 (.ofNat 2))))], [], none⟩⟩,
    ⟨true, ⟨(some 40), .mov (.t 6), [], none⟩⟩,
    ⟨true, ⟨(some 41), .build [.nilsl, (.int .i64 (.ofNat 0))] [(0, 1, (.t 40)), (1, 1, (.c (.int .i64 (.ofNat 0))))], [7], none⟩⟩,
    ⟨true, ⟨(some 42), .bslice false .dyn 2 2 [.nilsl, (.int .i64 (.ofNat 0)), .nilsl, (.int .i64 (.ofNat 0))] [(0, 2, (.t 39)), (2, 2, (.t 41))], [6, 8], none⟩⟩,
    ⟨true, ⟨(some 43), .build [(.int .i64 (.ofNat 0)), (.int .i64 (.ofNat 0)), (.int .i64 (.ofNat 0)), (.int .i64 (.ofNat 0)), .nilsl] [(0, 1, (.t 35)), (2, 1, (.t 38)), (4, 1, (.t 42))], [2, 5, 9], none⟩⟩,
    ⟨false, ⟨none, .store 5 (.t 5) (.t 43), [10, 0, 1, 2, 3, 4, 5, 6, 7, 8, 9, 10], none⟩⟩] [] 17583596110018)))
  (.seq (.region [⟨true, ⟨(some 45), .bin .eql (.t 11) (.c (.int .i64 (.ofNat 2))), [], none⟩⟩,
    ⟨true, ⟨(some 44), .mov (.t 45), [0], none⟩⟩] [] 35184380477440)
  (.cond (.t 44)
   (.region [⟨true, ⟨(some 46), .mov (.t 1), [], none⟩⟩,
     ⟨true, ⟨(some 47), .bin .mul (.c (.int .i64 (.ofNat 2))) (.t 46), [0], none⟩⟩,
     ⟨true, ⟨(some 48), .bin .sub (.t 47) (.c (.int .i64 (.ofNat 1))), [1], none⟩⟩,
     ⟨true, ⟨(some 49), .call .pure (.f 31) [(.c (.int .i64 (.ofNat 2))), (.t 48)], [2], none⟩⟩,
     ⟨true, ⟨(some 50), .mov (.t 1), [], none⟩⟩,
     ⟨true, ⟨(some 51), .bin .sub (.t 50) (.c (.int .i64 (.ofNat 1))), [4], none⟩⟩,
     ⟨true, ⟨(some 52), .call .pure (.f 31) [(.c (.int .i64 (.ofNat 3))), (.t 51)], [5, 3], none⟩⟩,
     ⟨true, ⟨(some 53), .bin .mul (.c (.int .i64 (.ofNat 2))) (.t 52), [6], none⟩⟩,
     ⟨true, ⟨(some 54), .mov (.t 1), [], none⟩⟩,
     ⟨true, ⟨(some 55), .bin .mul (.c (.int .i64 (.ofNat 2))) (.t 54), [8], none⟩⟩,
     ⟨true, ⟨(some 56), .bin .sub (.t 55) (.c (.int .i64 (.ofNat 2))), [9], none⟩⟩,
     ⟨true, ⟨(some 57), .build [.nilsl, (.int .i64 (.ofNat 0))] [(1, 1, (.t 56))], [10], none⟩⟩,
     ⟨true, ⟨(some 58), .bslice false .dyn 1 2 [(.int .i64 (.ofNat 0)), (.int .i64 (.ofNat 0))] [(0, 1, (.c (.int .i64 (.ofNat 0)))), (1, 1, (.c (.int .i64 (.ofNat 1))))], [], none⟩⟩,
     ⟨true, ⟨(some 59), .build [.nilsl, (.int .i64 (.ofNat 0))] [(0, 1, (.t 58)), (1, 1, (.c (.int .i64 (.ofNat 0))))], [12], none⟩⟩,
     ⟨true, ⟨(some 60), .bslice false .dyn 2 2 [.nilsl, (.int .i64 (.ofNat 0)), .nilsl, (.int .i64 (.ofNat 0))] [(0, 2, (.t 57)), (2, 2, (.t 59))], [11, 13], none⟩⟩,
     ⟨true, ⟨(some 61), .build [(.int .i64 (.ofNat 0)), (.int .i64 (.ofNat 0)), (.int .i64 (.ofNat 0)), (.int .i64 (.ofNat 0)), .nilsl] [(0, 1, (.t 49)), (2, 1, (.t 53)), (4, 1, (.t 60))], [3, 7, 14], none⟩⟩,
     ⟨false, ⟨none, .store 5 (.t 5) (.t 61), [15, 6, 0, 1, 2, 3, 4, 5, 6, 7, 8, 9, 10, 11, 12, 13, 14, 15], none⟩⟩] [] 4611633241869256706)
   (.seq (.region [⟨true, ⟨(some 63), .bin .eql (.t 11) (.c (.int .i64 (.ofNat 3))), [], none⟩⟩,
     ⟨true, ⟨(some 62), .mov (.t 63), [0], none⟩⟩] [] 9223389629040820224)
   (.cond (.t 62)
    (.seq (.region [⟨true, ⟨(some 8), .mov (.c .nilsl), [], none⟩⟩] [] 4611686018427389984)
    (.seq (.seq (.region [⟨true, ⟨(some 9), .mov (.c (.int .i64 (.ofNat 0))), [], none⟩⟩] [] 0)
    (.block 3 (.loop (.seq (.seq (.region [⟨true, ⟨(some 64), .mov (.t 9), [], none⟩⟩,
      ⟨true, ⟨(some 65), .mov (.t 1), [], none⟩⟩,
      ⟨true, ⟨(some 66), .bin .sub (.t 65) (.c (.int .i64 (.ofNat 1))), [1], none⟩⟩,
      ⟨true, ⟨(some 67), .bin .lss (.t 64) (.t 66), [0, 2], none⟩⟩] [] 129127208515966861312)
    (.cond (.t 67)
     .skip
     (.exit 3)))
    (.seq (.block 4 (.region [⟨true, ⟨(some 70), .mov (.t 8), [], none⟩⟩,
      ⟨true, ⟨(some 71), .mov (.t 9), [], none⟩⟩,
      ⟨true, ⟨(some 72), .bin .mul (.c (.int .i64 (.ofNat 3))) (.t 71), [1], none⟩⟩,
      ⟨true, ⟨(some 73), .bslice false .dyn 1 1 [(.int .i64 (.ofNat 0))] [(0, 1, (.t 72))], [2], none⟩⟩,
      ⟨true, ⟨(some 74), .append .dyn 1 8 (.t 70) (.t 73), [0, 3], none⟩⟩,
      ⟨false, ⟨(some 8), .mov (.t 74), [4, 4, 0, 1, 2, 3, 4], none⟩⟩] [] 36745914194829426819072))
    (.region [⟨true, ⟨(some 68), .mov (.t 9), [], none⟩⟩,
      ⟨true, ⟨(some 69), .bin .add (.t 68) (.c (.int .i64 (.ofNat 1))), [0], none⟩⟩,
      ⟨false, ⟨(some 9), .mov (.t 69), [1, 0, 1], none⟩⟩] [] 885443715538058477568))))))
    (.seq (.region [⟨true, ⟨(some 75), .bslice false .dyn 1 3 [(.int .i64 (.ofNat 0)), (.int .i64 (.ofNat 0)), (.int .i64 (.ofNat 0))] [(0, 1, (.c (.int .i64 (.ofNat 6)))), (1, 1, (.c (.int .i64 (.ofNat 14)))), (2, 1, (.c (.int .i64 (.ofNat 34))))], [], none⟩⟩,
      ⟨true, ⟨(some 76), .mov (.t 1), [], none⟩⟩,
      ⟨true, ⟨(some 77), .bin .sub (.t 76) (.c (.int .i64 (.ofNat 2))), [1], none⟩⟩,
      ⟨true, ⟨(some 78), .iaddr none 1 (.t 75) (.t 77), [0, 2], none⟩⟩,
      ⟨true, ⟨(some 79), .load none (.t 78), [3], none⟩⟩,
      ⟨true, ⟨(some 10), .mov (.t 79), [4, 0, 1, 2, 3, 4], none⟩⟩] [] 1171146887751672012997120)
    (.seq (.region [⟨true, ⟨(some 80), .mov (.t 10), [], none⟩⟩,
      ⟨true, ⟨(some 81), .mov (.t 10), [], none⟩⟩,
      ⟨true, ⟨(some 82), .bin .sub (.t 81) (.c (.int .i64 (.ofNat 1))), [1], none⟩⟩,
      ⟨true, ⟨(some 83), .mov (.t 10), [], none⟩⟩,
      ⟨true, ⟨(some 84), .bin .sub (.t 83) (.c (.int .i64 (.ofNat 1))), [3], none⟩⟩,
      ⟨true, ⟨(some 85), .mov (.t 8), [], none⟩⟩,
      ⟨true, ⟨(some 86), .mov (.t 1), [], none⟩⟩,
      ⟨true, ⟨(some 87), .bin .sub (.t 86) (.c (.int .i64 (.ofNat 1))), [6], none⟩⟩,
      ⟨true, ⟨(some 88), .bin .mul (.c (.int .i64 (.ofNat 3))) (.t 87), [7], none⟩⟩,
      ⟨true, ⟨(some 89), .build [.nilsl, (.int .i64 (.ofNat 0))] [(0, 1, (.t 85)), (1, 1, (.t 88))], [5, 8], none⟩⟩,
      ⟨true, ⟨(some 90), .bslice false .dyn 2 1 [.nilsl, (.int .i64 (.ofNat 0))] [(0, 2, (.t 89))], [9], none⟩⟩,
      ⟨true, ⟨(some 91), .build [(.int .i64 (.ofNat 0)), (.int .i64 (.ofNat 0)), (.int .i64 (.ofNat 0)), (.int .i64 (.ofNat 0)), .nilsl] [(0, 1, (.t 80)), (2, 1, (.t 82)), (3, 1, (.t 84)), (4, 1, (.t 90))], [0, 2, 4, 10], none⟩⟩,
      ⟨false, ⟨none, .store 5 (.t 4) (.t 91), [11, 0, 1, 2, 3, 4, 5, 6, 7, 8, 9, 10, 11], none⟩⟩] [] 4950551231321906470421792002)
    .ret))))
    (.seq (.region [⟨true, ⟨(some 93), .bin .eql (.t 11) (.c (.int .i64 (.ofNat 4))), [], none⟩⟩,
      ⟨true, ⟨(some 92), .mov (.t 93), [0], none⟩⟩] [] 9903520318894728217620383744)
    (.cond (.t 92)
     (.region [⟨true, ⟨(some 94), .mov (.t 1), [], none⟩⟩,
       ⟨true, ⟨(some 95), .call .pure (.f 31) [(.c (.int .i64 (.ofNat 2))), (.t 94)], [0], none⟩⟩,
       ⟨true, ⟨(some 96), .mov (.t 1), [], none⟩⟩,
       ⟨true, ⟨(some 97), .bin .add (.t 96) (.c (.int .i64 (.ofNat 1))), [2], none⟩⟩,
       ⟨true, ⟨(some 98), .bslice false .dyn 1 1 [(.int .i64 (.ofNat 0))] [(0, 1, (.c (.int .i64 (.ofNat 0))))], [], none⟩⟩,
       ⟨true, ⟨(some 99), .build [.nilsl, (.int .i64 (.ofNat 0))] [(0, 1, (.t 98)), (1, 1, (.c (.int .i64 (.ofNat 2))))], [4], none⟩⟩,
       ⟨true, ⟨(some 100), .bslice false .dyn 2 1 [.nilsl, (.int .i64 (.ofNat 0))] [(0, 2, (.t 99))], [5], none⟩⟩,
       ⟨true, ⟨(some 101), .build [(.int .i64 (.ofNat 0)), (.int .i64 (.ofNat 0)), (.int .i64 (.ofNat 0)), (.int .i64 (.ofNat 0)), .nilsl] [(0, 1, (.t 95)), (2, 1, (.t 97)), (4, 1, (.t 100))], [1, 3, 6], none⟩⟩,
       ⟨false, ⟨none, .store 5 (.t 5) (.t 101), [7, 1, 0, 1, 2, 3, 4, 5, 6, 7], none⟩⟩] [] 5055747120441493042688023330818)
     (.region [⟨true, ⟨(some 12), .mov (.t 1), [], none⟩⟩,
       ⟨true, ⟨(some 13), .mov (.t 1), [], none⟩⟩,
       ⟨true, ⟨(some 14), .call .pure (.f 31) [(.c (.int .i64 (.ofNat 2))), (.t 13)], [1], none⟩⟩,
       ⟨true, ⟨(some 15), .bin .mul (.t 12) (.t 14), [0, 2], none⟩⟩,
       ⟨true, ⟨(some 16), .mov (.t 1), [], none⟩⟩,
       ⟨true, ⟨(some 17), .mov (.t 1), [], none⟩⟩,
       ⟨true, ⟨(some 18), .call .pure (.f 31) [(.c (.int .i64 (.ofNat 2))), (.t 17)], [5, 2], none⟩⟩,
       ⟨true, ⟨(some 19), .bin .mul (.t 16) (.t 18), [4, 6], none⟩⟩,
       ⟨true, ⟨(some 20), .build [.nilsl, (.int .i64 (.ofNat 0))] [(1, 1, (.c (.int .i64 (.ofNat 2))))], [], none⟩⟩,
       ⟨true, ⟨(some 21), .bslice false .dyn 2 1 [.nilsl, (.int .i64 (.ofNat 0))] [(0, 2, (.t 20))], [8], none⟩⟩,
       ⟨true, ⟨(some 22), .build [(.int .i64 (.ofNat 0)), (.int .i64 (.ofNat 0)), (.int .i64 (.ofNat 0)), (.int .i64 (.ofNat 0)), .nilsl] [(0, 1, (.t 15)), (2, 1, (.t 19)), (4, 1, (.t 21))], [3, 7, 9], none⟩⟩,
       ⟨false, ⟨none, .store 5 (.t 5) (.t 22), [10, 6, 0, 1, 2, 3, 4, 5, 6, 7, 8, 9, 10], none⟩⟩] [] 4951760157141521099604881410)))))))))))
 (.seq (.region [⟨true, ⟨(some 102), .faddr 0 (.t 5), [], none⟩⟩,
   ⟨true, ⟨(some 103), .load none (.t 102), [0], none⟩⟩,
   ⟨true, ⟨(some 104), .faddr 2 (.t 5), [], none⟩⟩,
   ⟨true, ⟨(some 105), .load none (.t 104), [2], none⟩⟩,
   ⟨true, ⟨(some 106), .bin .sub (.t 103) (.t 105), [1, 3], none⟩⟩,
   ⟨true, ⟨(some 107), .faddr 2 (.t 5), [], none⟩⟩,
   ⟨true, ⟨(some 108), .load none (.t 107), [5], none⟩⟩,
   ⟨true, ⟨(some 109), .faddr 1 (.t 5), [0, 1, 2, 3, 4, 5, 6], none⟩⟩,
   ⟨false, ⟨none, .store 1 (.t 109) (.t 106), [7, 4, 0, 1, 2, 3, 4, 5, 6], none⟩⟩,
   ⟨true, ⟨(some 110), .faddr 3 (.t 5), [0, 1, 2, 3, 4, 5, 6, 7, 8], none⟩⟩,
   ⟨false, ⟨none, .store 1 (.t 110) (.t 108), [9, 6, 8, 0, 1, 2, 3, 4, 5, 6, 7, 8], none⟩⟩] [] 2591077826866500896659261351788544)
 (.seq (.region [⟨true, ⟨(some 111), .load (some 5) (.t 5), [], none⟩⟩,
   ⟨false, ⟨none, .store 5 (.t 4) (.t 111), [0, 0], none⟩⟩] [] 2596148429267413814265248164610080)
 .ret)))))⟩

-- overseer/overseerref03.SameInts
def f11 : FFn := ⟨26, [.tmp 4],
 (.seq (.region [⟨true, ⟨(some 4), .mov (.c (.bool false)), [], none⟩⟩] [] 16)
 (.seq (.seq (.region [⟨true, ⟨(some 6), .mov (.t 0), [], none⟩⟩,
   ⟨true, ⟨(some 7), .len 1 (.t 6), [0], none⟩⟩,
   ⟨true, ⟨(some 8), .mov (.t 1), [], none⟩⟩,
   ⟨true, ⟨(some 9), .len 1 (.t 8), [2], none⟩⟩,
   ⟨true, ⟨(some 10), .bin .neq (.t 7) (.t 9), [1, 3], none⟩⟩] [] 960)
 (.cond (.t 10)
  (.seq (.region [⟨true, ⟨(some 4), .mov (.c (.bool false)), [], none⟩⟩] [] 1027)
  .ret)
  .skip))
 (.seq (.seq (.region [⟨true, ⟨(some 5), .mov (.c (.int .i64 (.ofNat 0))), [], none⟩⟩] [] 1040)
 (.block 0 (.loop (.seq (.seq (.region [⟨true, ⟨(some 11), .mov (.t 5), [], none⟩⟩,
   ⟨true, ⟨(some 12), .mov (.t 0), [], none⟩⟩,
   ⟨true, ⟨(some 13), .len 1 (.t 12), [1], none⟩⟩,
   ⟨true, ⟨(some 14), .bin .lss (.t 11) (.t 13), [0, 2], none⟩⟩] [] 14336)
 (.cond (.t 14)
  .skip
  (.exit 0)))
 (.seq (.block 1 (.seq (.region [⟨true, ⟨(some 17), .mov (.t 0), [], none⟩⟩,
   ⟨true, ⟨(some 18), .mov (.t 5), [], none⟩⟩,
   ⟨true, ⟨(some 19), .iaddr none 1 (.t 17) (.t 18), [0, 1], none⟩⟩,
   ⟨true, ⟨(some 20), .load none (.t 19), [2], none⟩⟩,
   ⟨true, ⟨(some 21), .mov (.t 1), [], none⟩⟩,
   ⟨true, ⟨(some 22), .mov (.t 5), [], none⟩⟩,
   ⟨true, ⟨(some 23), .iaddr none 1 (.t 21) (.t 22), [4, 5], none⟩⟩,
   ⟨true, ⟨(some 24), .load none (.t 23), [6], none⟩⟩,
   ⟨true, ⟨(some 25), .bin .neq (.t 20) (.t 24), [3, 7], none⟩⟩] [] 33439744)
 (.cond (.t 25)
  (.seq (.region [⟨true, ⟨(some 4), .mov (.c (.bool false)), [], none⟩⟩] [] 33554467)
  .ret)
  .skip)))
 (.region [⟨true, ⟨(some 15), .mov (.t 5), [], none⟩⟩,
   ⟨true, ⟨(some 16), .bin .add (.t 15) (.c (.int .i64 (.ofNat 1))), [0], none⟩⟩,
   ⟨false, ⟨(some 5), .mov (.t 16), [1, 0, 1], none⟩⟩] [] 33652752))))))
 (.seq (.region [⟨true, ⟨(some 4), .mov (.c (.bool true)), [], none⟩⟩] [] 35)
 .ret))))⟩

-- overseer/catalogue.Name
def f12 : FFn := ⟨15, [.tmp 2, .tmp 3],
 (.seq (.region [⟨true, ⟨(some 2), .mov (.c (.str [])), [], none⟩⟩,
   ⟨true, ⟨(some 3), .mov (.c (.int .i64 (.ofNat 0))), [0], none⟩⟩] [] 12)
 (.seq (.seq (.region [⟨true, ⟨(some 4), .mov (.t 0), [], none⟩⟩,
   ⟨true, ⟨(some 5), .bin .lss (.t 4) (.c (.int .i64 (.ofNat 1))), [0], none⟩⟩,
   ⟨true, ⟨(some 6), .mov (.t 5), [1], none⟩⟩,
   ⟨true, ⟨(some 7), .mov (.t 0), [2], (some (6, false))⟩⟩,
   ⟨true, ⟨(some 8), .bin .gtr (.t 7) (.c (.int .i64 (.ofNat 5))), [3, 2], (some (6, false))⟩⟩,
   ⟨true, ⟨(some 9), .pick (.t 6) (.c (.bool true)) (.t 8), [2, 4], none⟩⟩] [] 496)
 (.cond (.t 9)
  (.seq (.region [⟨true, ⟨(some 2), .mov (.c (.str [])), [], none⟩⟩,
    ⟨true, ⟨(some 3), .mov (.c (.int .i64 (.ofNat 11))), [0, 0], none⟩⟩] [] 513)
  .ret)
  .skip))
 (.seq (.region [⟨true, ⟨(some 10), .bslice false .dyn 1 5 [(.str []), (.str []), (.str []), (.str []), (.str [])] [(0, 1, (.c (.str [102, 97, 99, 116, 111, 114, 121]))), (1, 1, (.c (.str [108, 105, 110, 101]))), (2, 1, (.c (.str [100, 105, 110, 105, 110, 103]))), (3, 1, (.c (.str [122, 111, 110, 101]))), (4, 1, (.c (.str [97, 108, 116, 101, 114, 110, 97, 116, 101])))], [], none⟩⟩,
   ⟨true, ⟨(some 11), .mov (.t 0), [], none⟩⟩,
   ⟨true, ⟨(some 12), .bin .sub (.t 11) (.c (.int .i64 (.ofNat 1))), [1], none⟩⟩,
   ⟨true, ⟨(some 13), .iaddr none 1 (.t 10) (.t 12), [0, 2], none⟩⟩,
   ⟨true, ⟨(some 14), .load none (.t 13), [3], none⟩⟩,
   ⟨false, ⟨(some 2), .mov (.t 14), [4, 0, 1, 2, 3, 4], none⟩⟩,
   ⟨false, ⟨(some 3), .mov (.c (.int .i64 (.ofNat 0))), [5, 0, 1, 2, 3, 4, 5], none⟩⟩] [] 32257)
 .ret)))⟩

-- overseer/catalogue.Sizes
def f13 : FFn := ⟨15, [.tmp 2, .tmp 3, .tmp 4],
 (.seq (.region [⟨true, ⟨(some 2), .mov (.c (.int .i64 (.ofNat 0))), [], none⟩⟩,
   ⟨true, ⟨(some 3), .mov (.c (.int .i64 (.ofNat 0))), [0], none⟩⟩,
   ⟨true, ⟨(some 4), .mov (.c (.int .i64 (.ofNat 0))), [1], none⟩⟩] [] 28)
 (.seq (.seq (.region [⟨true, ⟨(some 5), .mov (.t 0), [], none⟩⟩] [] 1)
 (.block 0 (.seq (.region [⟨true, ⟨(some 7), .bin .eql (.t 5) (.c (.int .i64 (.ofNat 1))), [], none⟩⟩,
   ⟨true, ⟨(some 6), .mov (.t 7), [0], none⟩⟩] [] 128)
 (.cond (.t 6)
  (.seq (.region [⟨true, ⟨(some 2), .mov (.c (.int .i64 (.ofNat 1))), [], none⟩⟩,
    ⟨true, ⟨(some 3), .mov (.c (.int .i64 (.ofNat 8))), [0, 0], none⟩⟩,
    ⟨true, ⟨(some 4), .mov (.c (.int .i64 (.ofNat 0))), [1, 0, 1], none⟩⟩] [] 96)
  .ret)
  (.seq (.seq (.region [⟨true, ⟨(some 9), .bin .eql (.t 5) (.c (.int .i64 (.ofNat 2))), [], none⟩⟩,
    ⟨true, ⟨(some 8), .mov (.t 9), [0], none⟩⟩] [] 576)
  (.cond (.t 8)
   .skip
   (.region [⟨true, ⟨(some 10), .bin .eql (.t 5) (.c (.int .i64 (.ofNat 5))), [], none⟩⟩,
     ⟨false, ⟨(some 8), .mov (.t 10), [0], none⟩⟩] [] 1024)))
  (.cond (.t 8)
   (.seq (.region [⟨true, ⟨(some 2), .mov (.c (.int .i64 (.ofNat 2))), [], none⟩⟩,
     ⟨true, ⟨(some 3), .mov (.c (.int .i64 (.ofNat 6))), [0, 0], none⟩⟩,
     ⟨true, ⟨(some 4), .mov (.c (.int .i64 (.ofNat 0))), [1, 0, 1], none⟩⟩] [] 288)
   .ret)
   (.seq (.region [⟨true, ⟨(some 12), .bin .eql (.t 5) (.c (.int .i64 (.ofNat 3))), [], none⟩⟩,
     ⟨true, ⟨(some 11), .mov (.t 12), [0], none⟩⟩] [] 4352)
   (.cond (.t 11)
    (.seq (.region [⟨true, ⟨(some 2), .mov (.c (.int .i64 (.ofNat 2))), [], none⟩⟩,
      ⟨true, ⟨(some 3), .mov (.c (.int .i64 (.ofNat 4))), [0, 0], none⟩⟩,
      ⟨true, ⟨(some 4), .mov (.c (.int .i64 (.ofNat 0))), [1, 0, 1], none⟩⟩] [] 2080)
    .ret)
    (.seq (.region [⟨true, ⟨(some 14), .bin .eql (.t 5) (.c (.int .i64 (.ofNat 4))), [], none⟩⟩,
      ⟨true, ⟨(some 13), .mov (.t 14), [0], none⟩⟩] [] 18464)
    (.cond (.t 13)
     (.seq (.region [⟨true, ⟨(some 2), .mov (.c (.int .i64 (.ofNat 2))), [], none⟩⟩,
       ⟨true, ⟨(some 3), .mov (.c (.int .i64 (.ofNat 8))), [0, 0], none⟩⟩,
       ⟨true, ⟨(some 4), .mov (.c (.int .i64 (.ofNat 0))), [1, 0, 1], none⟩⟩] [] 8192)
     .ret)
     .skip))))))))))
 (.seq (.region [⟨false, ⟨(some 2), .mov (.c (.int .i64 (.ofNat 0))), [], none⟩⟩,
   ⟨false, ⟨(some 3), .mov (.c (.int .i64 (.ofNat 0))), [0, 0], none⟩⟩,
   ⟨false, ⟨(some 4), .mov (.c (.int .i64 (.ofNat 11))), [1, 0, 1], none⟩⟩] [] 8192)
 .ret)))⟩

-- overseer/catalogue.Cell
def f14 : FFn := ⟨54, [.cell 4 (some 5), .tmp 5],
 (.seq (.region [⟨true, ⟨(some 4), .alloc .dyn (.agg [.nilsl, .nilsl, .nilsl, .nilsl, .nilsl]), [], none⟩⟩,
   ⟨true, ⟨(some 5), .mov (.c (.int .i64 (.ofNat 0))), [], none⟩⟩] [] 32)
 (.seq (.seq (.region [⟨true, ⟨(some 10), .mov (.t 0), [], none⟩⟩,
   ⟨true, ⟨(some 11), .mov (.t 1), [], none⟩⟩,
   ⟨true, ⟨(some 12), .call .pure (.f 28) [(.t 10), (.t 11)], [0, 1], none⟩⟩,
   ⟨true, ⟨(some 6), .mov (.t 12), [2, 2, 0, 1, 2], none⟩⟩] [] 7168)
 (.seq (.region [⟨true, ⟨(some 13), .mov (.t 6), [], none⟩⟩,
   ⟨true, ⟨(some 14), .bin .neq (.t 13) (.c (.int .i64 (.ofNat 0))), [0], none⟩⟩] [] 8192)
 (.cond (.t 14)
  (.seq (.region [⟨true, ⟨(some 15), .build [.nilsl, .nilsl, .nilsl, .nilsl, .nilsl] [], [], none⟩⟩,
    ⟨true, ⟨(some 16), .mov (.t 6), [], none⟩⟩,
    ⟨false, ⟨none, .store 5 (.t 4) (.t 15), [0, 0], none⟩⟩,
    ⟨true, ⟨(some 5), .mov (.t 16), [1, 2, 0, 1, 2], none⟩⟩] [] 114755)
  .ret)
  .skip)))
 (.seq (.seq (.region [⟨true, ⟨(some 17), .mov (.t 0), [], none⟩⟩] [] 16481)
 (.block 0 (.seq (.region [⟨true, ⟨(some 19), .bin .eql (.t 17) (.c (.int .i64 (.ofNat 1))), [], none⟩⟩,
   ⟨true, ⟨(some 18), .mov (.t 19), [0], none⟩⟩] [] 524288)
 (.cond (.t 18)
  (.seq (.region [⟨true, ⟨(some 20), .call .heap (.f 32) [(.c (.int .i64 (.ofNat 2)))], [], none⟩⟩,
    ⟨true, ⟨(some 7), .alloc .dyn (.agg [.nilsl, .nilsl, .nilsl, .nilsl, .nilsl]), [], none⟩⟩,
    ⟨false, ⟨none, .store 5 (.t 7) (.t 20), [1, 0, 0, 0, 1], none⟩⟩] [] 1441792)
  (.seq (.region [⟨true, ⟨(some 21), .mov (.t 1), [], none⟩⟩,
    ⟨true, ⟨(some 22), .call .pure (.f 33) [(.c (.int .i64 (.ofNat 0))), (.t 21)], [0], none⟩⟩,
    ⟨true, ⟨(some 23), .bslice false .dyn 5 1 [(.str []), .nilsl, (.int .i64 (.ofNat 0)), .nilsl, .nilsl] [(0, 5, (.t 22))], [1], none⟩⟩,
    ⟨true, ⟨(some 24), .faddr 2 (.t 7), [0, 1, 2], none⟩⟩,
    ⟨false, ⟨none, .store 1 (.t 24) (.t 23), [3, 2, 1, 0, 1, 2], none⟩⟩] [] 31457282)
  (.seq (.region [⟨true, ⟨(some 25), .load (some 5) (.t 7), [], none⟩⟩,
    ⟨false, ⟨none, .store 5 (.t 4) (.t 25), [0, 0], none⟩⟩,
    ⟨true, ⟨(some 5), .mov (.c (.int .i64 (.ofNat 0))), [1, 0, 1], none⟩⟩] [] 33554560)
  .ret)))
  (.seq (.region [⟨true, ⟨(some 27), .bin .eql (.t 17) (.c (.int .i64 (.ofNat 2))), [], none⟩⟩,
    ⟨true, ⟨(some 26), .mov (.t 27), [0], none⟩⟩] [] 134479872)
  (.cond (.t 26)
   (.seq (.region [⟨true, ⟨(some 28), .mov (.t 1), [], none⟩⟩,
     ⟨true, ⟨(some 29), .call .heap (.f 32) [(.t 28)], [0], none⟩⟩,
     ⟨true, ⟨(some 8), .alloc .dyn (.agg [.nilsl, .nilsl, .nilsl, .nilsl, .nilsl]), [], none⟩⟩,
     ⟨false, ⟨none, .store 5 (.t 8) (.t 29), [2, 1, 1, 0, 1, 2], none⟩⟩] [] 872546304)
   (.seq (.seq (.region [⟨true, ⟨(some 30), .mov (.t 1), [], none⟩⟩,
     ⟨true, ⟨(some 31), .bin .sub (.t 30) (.c (.int .i64 (.ofNat 1))), [0], none⟩⟩,
     ⟨true, ⟨(some 32), .mov (.c (.int .i64 (.ofNat 0))), [], none⟩⟩] [] 1073741826)
   (.block 1 (.loop (.seq (.region [⟨true, ⟨(some 33), .bin .lss (.t 32) (.t 31), [], none⟩⟩] [] 0)
   (.seq (.cond (.t 33)
    .skip
    (.exit 1))
   (.seq (.block 2 (.seq (.region [⟨true, ⟨(some 34), .mov (.t 32), [], none⟩⟩,
     ⟨true, ⟨(some 9), .mov (.t 34), [0, 0], none⟩⟩] [] 25769803776)
   (.region [⟨true, ⟨(some 35), .faddr 2 (.t 8), [], none⟩⟩,
     ⟨true, ⟨(some 36), .load none (.t 35), [0], none⟩⟩,
     ⟨true, ⟨(some 37), .mov (.t 9), [], none⟩⟩,
     ⟨true, ⟨(some 38), .call .pure (.f 33) [(.t 37), (.c (.int .i64 (.ofNat 1)))], [2], none⟩⟩,
     ⟨true, ⟨(some 39), .bslice false .dyn 5 1 [(.str []), .nilsl, (.int .i64 (.ofNat 0)), .nilsl, .nilsl] [(0, 5, (.t 38))], [3], none⟩⟩,
     ⟨true, ⟨(some 40), .append .dyn 5 96 (.t 36) (.t 39), [1, 4, 3], none⟩⟩,
     ⟨true, ⟨(some 41), .faddr 2 (.t 8), [0, 1, 2, 3, 4, 5], none⟩⟩,
     ⟨false, ⟨none, .store 1 (.t 41) (.t 40), [6, 5, 5, 0, 1, 2, 3, 4, 5], none⟩⟩] [(1, 4)] 4363686773248)))
   (.region [⟨true, ⟨(some 42), .bin .add (.t 32) (.c (.int .i64 (.ofNat 1))), [], none⟩⟩,
     ⟨false, ⟨(some 32), .mov (.t 42), [0], none⟩⟩] [] 4398046511104)))))))
   (.seq (.region [⟨true, ⟨(some 43), .load (some 5) (.t 8), [], none⟩⟩,
     ⟨false, ⟨none, .store 5 (.t 4) (.t 43), [0, 0], none⟩⟩,
     ⟨true, ⟨(some 5), .mov (.c (.int .i64 (.ofNat 0))), [1, 0, 1], none⟩⟩] [] 8802535473408)
   .ret)))
   (.seq (.region [⟨true, ⟨(some 45), .bin .eql (.t 17) (.c (.int .i64 (.ofNat 3))), [], none⟩⟩,
     ⟨true, ⟨(some 44), .mov (.t 45), [0], none⟩⟩] [] 35184439197696)
   (.cond (.t 44)
    (.seq (.region [⟨true, ⟨(some 46), .mov (.t 1), [], none⟩⟩,
      ⟨true, ⟨(some 47), .call .heap (.f 34) [(.t 46)], [0], none⟩⟩,
      ⟨false, ⟨none, .store 5 (.t 4) (.t 47), [1, 1, 0, 1], none⟩⟩,
      ⟨true, ⟨(some 5), .mov (.c (.int .i64 (.ofNat 0))), [2, 0, 1, 2], none⟩⟩] [] 228698418708482)
    .ret)
    (.seq (.region [⟨true, ⟨(some 49), .bin .eql (.t 17) (.c (.int .i64 (.ofNat 4))), [], none⟩⟩,
      ⟨true, ⟨(some 48), .mov (.t 49), [0], none⟩⟩] [] 580542139596800)
    (.cond (.t 48)
     (.seq (.region [⟨true, ⟨(some 50), .mov (.t 1), [], none⟩⟩,
       ⟨true, ⟨(some 51), .call .heap (.f 35) [(.t 50)], [0], none⟩⟩,
       ⟨false, ⟨none, .store 5 (.t 4) (.t 51), [1, 1, 0, 1], none⟩⟩,
       ⟨true, ⟨(some 5), .mov (.c (.int .i64 (.ofNat 0))), [2, 0, 1, 2], none⟩⟩] [] 3659174697238530)
     .ret)
     .skip))))))))))
 (.seq (.region [⟨true, ⟨(some 52), .mov (.t 1), [], none⟩⟩,
   ⟨true, ⟨(some 53), .call .heap (.f 36) [(.t 52)], [0], none⟩⟩,
   ⟨false, ⟨none, .store 5 (.t 4) (.t 53), [1, 1, 0, 1], none⟩⟩,
   ⟨false, ⟨(some 5), .mov (.c (.int .i64 (.ofNat 0))), [2, 0, 1, 2], none⟩⟩] [] 13792273858822146)
 .ret))))⟩

-- overseer/catalogue.Kinds
def f15 : FFn := ⟨2, [.tmp 0],
 (.seq (.region [⟨true, ⟨(some 0), .mov (.c .nilsl), [], none⟩⟩] [] 1)
 (.seq (.region [⟨true, ⟨(some 1), .bslice false .dyn 1 5 [(.int .i64 (.ofNat 0)), (.int .i64 (.ofNat 0)), (.int .i64 (.ofNat 0)), (.int .i64 (.ofNat 0)), (.int .i64 (.ofNat 0))] [(0, 1, (.c (.int .i64 (.ofNat 1)))), (1, 1, (.c (.int .i64 (.ofNat 2)))), (2, 1, (.c (.int .i64 (.ofNat 3)))), (3, 1, (.c (.int .i64 (.ofNat 4)))), (4, 1, (.c (.int .i64 (.ofNat 5))))], [], none⟩⟩,
   ⟨true, ⟨(some 0), .mov (.t 1), [0, 0], none⟩⟩] [] 2)
 .ret))⟩

-- overseer/overseerlaw59.sizes
def f16 : FFn := ⟨20, [.tmp 2, .tmp 3],
 (.seq (.region [⟨true, ⟨(some 2), .mov (.c (.int .i64 (.ofNat 0))), [], none⟩⟩,
   ⟨true, ⟨(some 3), .mov (.c (.int .i64 (.ofNat 0))), [0], none⟩⟩] [] 12)
 (.seq (.seq (.region [⟨true, ⟨(some 4), .mov (.t 0), [], none⟩⟩,
   ⟨true, ⟨(some 5), .bin .lss (.t 4) (.c (.int .i64 (.ofNat 1))), [0], none⟩⟩,
   ⟨true, ⟨(some 6), .mov (.t 5), [1], none⟩⟩,
   ⟨true, ⟨(some 7), .mov (.t 0), [2], (some (6, false))⟩⟩,
   ⟨true, ⟨(some 8), .bin .gtr (.t 7) (.c (.int .i64 (.ofNat 5))), [3, 2], (some (6, false))⟩⟩,
   ⟨true, ⟨(some 9), .pick (.t 6) (.c (.bool true)) (.t 8), [2, 4], none⟩⟩] [] 496)
 (.cond (.t 9)
  (.seq (.region [⟨true, ⟨(some 2), .mov (.c (.int .i64 (.ofNat 0))), [], none⟩⟩,
    ⟨true, ⟨(some 3), .mov (.c (.int .i64 (.ofNat 0))), [0, 0], none⟩⟩] [] 513)
  .ret)
  .skip))
 (.seq (.region [⟨true, ⟨(some 10), .bslice false .dyn 1 5 [(.int .i64 (.ofNat 0)), (.int .i64 (.ofNat 0)), (.int .i64 (.ofNat 0)), (.int .i64 (.ofNat 0)), (.int .i64 (.ofNat 0))] [(0, 1, (.c (.int .i64 (.ofNat 1)))), (1, 1, (.c (.int .i64 (.ofNat 2)))), (2, 1, (.c (.int .i64 (.ofNat 2)))), (3, 1, (.c (.int .i64 (.ofNat 2)))), (4, 1, (.c (.int .i64 (.ofNat 2))))], [], none⟩⟩,
   ⟨true, ⟨(some 11), .mov (.t 0), [], none⟩⟩,
   ⟨true, ⟨(some 12), .bin .sub (.t 11) (.c (.int .i64 (.ofNat 1))), [1], none⟩⟩,
   ⟨true, ⟨(some 13), .iaddr none 1 (.t 10) (.t 12), [0, 2], none⟩⟩,
   ⟨true, ⟨(some 14), .load none (.t 13), [3], none⟩⟩,
   ⟨true, ⟨(some 15), .bslice false .dyn 1 5 [(.int .i64 (.ofNat 0)), (.int .i64 (.ofNat 0)), (.int .i64 (.ofNat 0)), (.int .i64 (.ofNat 0)), (.int .i64 (.ofNat 0))] [(0, 1, (.c (.int .i64 (.ofNat 8)))), (1, 1, (.c (.int .i64 (.ofNat 6)))), (2, 1, (.c (.int .i64 (.ofNat 4)))), (3, 1, (.c (.int .i64 (.ofNat 8)))), (4, 1, (.c (.int .i64 (.ofNat 6))))], [], none⟩⟩,
   ⟨true, ⟨(some 16), .mov (.t 0), [], none⟩⟩,
   ⟨true, ⟨(some 17), .bin .sub (.t 16) (.c (.int .i64 (.ofNat 1))), [6], none⟩⟩,
   ⟨true, ⟨(some 18), .iaddr none 1 (.t 15) (.t 17), [5, 7], none⟩⟩,
   ⟨true, ⟨(some 19), .load none (.t 18), [8], none⟩⟩,
   ⟨false, ⟨(some 2), .mov (.t 14), [4, 0, 1, 2, 3, 4], none⟩⟩,
   ⟨false, ⟨(some 3), .mov (.t 19), [9, 10, 0, 1, 2, 3, 4, 5, 6, 7, 8, 9, 10], none⟩⟩] [(0, 5), (4, 5), (0, 9)] 1048065)
 .ret)))⟩

-- overseer/cell.Equal
def f17 : FFn := ⟨41, [.tmp 4],
 (.seq (.region [⟨true, ⟨(some 2), .box .dyn (.t 0), [], none⟩⟩,
   ⟨true, ⟨(some 3), .box .dyn (.t 1), [], none⟩⟩,
   ⟨true, ⟨(some 4), .mov (.c (.bool false)), [], none⟩⟩] [] 19)
 (.seq (.region [⟨true, ⟨(some 5), .mov (.f 37), [], none⟩⟩] [] 0)
 (.seq (.region [⟨true, ⟨(some 6), .faddr 0 (.t 2), [], none⟩⟩,
   ⟨true, ⟨(some 7), .load none (.t 6), [0], none⟩⟩,
   ⟨true, ⟨(some 8), .faddr 0 (.t 3), [], none⟩⟩,
   ⟨true, ⟨(some 9), .load none (.t 8), [2], none⟩⟩,
   ⟨true, ⟨(some 10), .call .heap (.f 39) [(.t 7), (.t 9)], [1, 3], none⟩⟩,
   ⟨true, ⟨(some 11), .mov (.t 10), [4, 4], none⟩⟩,
   ⟨true, ⟨(some 12), .faddr 1 (.t 2), [5], (some (11, true))⟩⟩,
   ⟨true, ⟨(some 13), .load none (.t 12), [6, 5], (some (11, true))⟩⟩,
   ⟨true, ⟨(some 14), .faddr 1 (.t 3), [5], (some (11, true))⟩⟩,
   ⟨true, ⟨(some 15), .load none (.t 14), [8, 5], (some (11, true))⟩⟩,
   ⟨true, ⟨(some 16), .mov (.t 5), [5], (some (11, true))⟩⟩,
   ⟨true, ⟨(some 17), .call .heap (.f 40) [(.t 13), (.t 15), (.t 16)], [7, 9, 10, 5, 5], (some (11, true))⟩⟩,
   ⟨true, ⟨(some 18), .pick (.t 11) (.t 17) (.c (.bool false)), [5, 11], none⟩⟩,
   ⟨true, ⟨(some 19), .mov (.t 18), [12, 11], none⟩⟩,
   ⟨true, ⟨(some 20), .faddr 2 (.t 2), [13], (some (19, true))⟩⟩,
   ⟨true, ⟨(some 21), .load none (.t 20), [14, 13], (some (19, true))⟩⟩,
   ⟨true, ⟨(some 22), .faddr 2 (.t 3), [13], (some (19, true))⟩⟩,
   ⟨true, ⟨(some 23), .load none (.t 22), [16, 13], (some (19, true))⟩⟩,
   ⟨true, ⟨(some 24), .mov (.t 5), [13], (some (19, true))⟩⟩,
   ⟨true, ⟨(some 25), .call .heap (.f 40) [(.t 21), (.t 23), (.t 24)], [15, 17, 18, 13, 13], (some (19, true))⟩⟩,
   ⟨true, ⟨(some 26), .pick (.t 19) (.t 25) (.c (.bool false)), [13, 19], none⟩⟩,
   ⟨true, ⟨(some 27), .mov (.t 26), [20, 19], none⟩⟩,
   ⟨true, ⟨(some 28), .faddr 3 (.t 2), [21], (some (27, true))⟩⟩,
   ⟨true, ⟨(some 29), .load none (.t 28), [22, 21], (some (27, true))⟩⟩,
   ⟨true, ⟨(some 30), .faddr 3 (.t 3), [21], (some (27, true))⟩⟩,
   ⟨true, ⟨(some 31), .load none (.t 30), [24, 21], (some (27, true))⟩⟩,
   ⟨true, ⟨(some 32), .call .heap (.f 41) [(.t 29), (.t 31), (.f 42)], [23, 25, 21, 21], (some (27, true))⟩⟩,
   ⟨true, ⟨(some 33), .pick (.t 27) (.t 32) (.c (.bool false)), [21, 26], none⟩⟩,
   ⟨true, ⟨(some 34), .mov (.t 33), [27, 26], none⟩⟩,
   ⟨true, ⟨(some 35), .faddr 4 (.t 2), [28], (some (34, true))⟩⟩,
   ⟨true, ⟨(some 36), .load none (.t 35), [29, 28], (some (34, true))⟩⟩,
   ⟨true, ⟨(some 37), .faddr 4 (.t 3), [28], (some (34, true))⟩⟩,
   ⟨true, ⟨(some 38), .load none (.t 37), [31, 28], (some (34, true))⟩⟩,
   ⟨true, ⟨(some 39), .call .heap (.f 44) [(.t 36), (.t 38), (.f 45)], [30, 32, 28, 28], (some (34, true))⟩⟩,
   ⟨true, ⟨(some 40), .pick (.t 34) (.t 39) (.c (.bool false)), [28, 33], none⟩⟩,
   ⟨true, ⟨(some 4), .mov (.t 40), [34, 33, 0, 1, 2, 3, 4, 5, 6, 7, 8, 9, 10, 11, 12, 13, 14, 15, 16, 17, 18, 19, 20, 21, 22, 23, 24, 25, 26, 27, 28, 29, 30, 31, 32, 33, 34], none⟩⟩] [] 2199023255532)
 .ret)))⟩

-- overseer/overseerlaw03.Has
def f18 : FFn := ⟨18, [.tmp 4],
 (.seq (.region [⟨true, ⟨(some 4), .mov (.c (.bool false)), [], none⟩⟩] [] 16)
 (.seq (.seq (.region [⟨true, ⟨(some 5), .mov (.c (.int .i64 (.ofNat 0))), [], none⟩⟩] [] 0)
 (.block 0 (.loop (.seq (.seq (.region [⟨true, ⟨(some 6), .mov (.t 5), [], none⟩⟩,
   ⟨true, ⟨(some 7), .mov (.t 0), [], none⟩⟩,
   ⟨true, ⟨(some 8), .len 1 (.t 7), [1], none⟩⟩,
   ⟨true, ⟨(some 9), .bin .lss (.t 6) (.t 8), [0, 2], none⟩⟩] [] 448)
 (.cond (.t 9)
  .skip
  (.exit 0)))
 (.seq (.block 1 (.seq (.region [⟨true, ⟨(some 12), .mov (.t 0), [], none⟩⟩,
   ⟨true, ⟨(some 13), .mov (.t 5), [], none⟩⟩,
   ⟨true, ⟨(some 14), .iaddr none 1 (.t 12) (.t 13), [0, 1], none⟩⟩,
   ⟨true, ⟨(some 15), .load none (.t 14), [2], none⟩⟩,
   ⟨true, ⟨(some 16), .mov (.t 1), [], none⟩⟩,
   ⟨true, ⟨(some 17), .bin .eql (.t 15) (.t 16), [3, 4], none⟩⟩] [] 127488)
 (.cond (.t 17)
  (.seq (.region [⟨true, ⟨(some 4), .mov (.c (.bool true)), [], none⟩⟩] [] 131107)
  .ret)
  .skip)))
 (.region [⟨true, ⟨(some 10), .mov (.t 5), [], none⟩⟩,
   ⟨true, ⟨(some 11), .bin .add (.t 10) (.c (.int .i64 (.ofNat 1))), [0], none⟩⟩,
   ⟨false, ⟨(some 5), .mov (.t 11), [1, 0, 1], none⟩⟩] [] 134160))))))
 (.seq (.region [⟨true, ⟨(some 4), .mov (.c (.bool false)), [], none⟩⟩] [] 35)
 .ret)))⟩

-- overseer/catalogue.KnownNet
def f20 : FFn := ⟨70, [.cell 2 (some 4), .tmp 3],
 (.seq (.region [⟨true, ⟨(some 2), .alloc .dyn (.agg [(.int .i64 (.ofNat 0)), (.int .i64 (.ofNat 0)), .nilsl, .nilsl]), [], none⟩⟩,
   ⟨true, ⟨(some 3), .mov (.c (.int .i64 (.ofNat 0))), [], none⟩⟩] [] 8)
 (.seq (.seq (.region [⟨true, ⟨(some 9), .mov (.t 0), [], none⟩⟩,
   ⟨true, ⟨(some 10), .bin .lss (.t 9) (.c (.int .i64 (.ofNat 2))), [0], none⟩⟩,
   ⟨true, ⟨(some 11), .mov (.t 10), [1], none⟩⟩,
   ⟨true, ⟨(some 12), .mov (.t 0), [2], (some (11, false))⟩⟩,
   ⟨true, ⟨(some 13), .bin .gtr (.t 12) (.c (.int .i64 (.ofNat 3))), [3, 2], (some (11, false))⟩⟩,
   ⟨true, ⟨(some 14), .pick (.t 11) (.c (.bool true)) (.t 13), [2, 4], none⟩⟩] [] 15872)
 (.cond (.t 14)
  (.seq (.region [⟨true, ⟨(some 15), .build [(.int .i64 (.ofNat 0)), (.int .i64 (.ofNat 0)), .nilsl, .nilsl] [], [], none⟩⟩,
    ⟨false, ⟨none, .store 4 (.t 2) (.t 15), [0, 0], none⟩⟩,
    ⟨true, ⟨(some 3), .mov (.c (.int .i64 (.ofNat 2))), [1, 0, 1], none⟩⟩] [] 49153)
  .ret)
  .skip))
 (.seq (.region [⟨true, ⟨(some 16), .bslice false .dyn 1 2 [(.int .i64 (.ofNat 0)), (.int .i64 (.ofNat 0))] [(0, 1, (.c (.int .i64 (.ofNat 6)))), (1, 1, (.c (.int .i64 (.ofNat 14))))], [], none⟩⟩,
   ⟨true, ⟨(some 17), .mov (.t 0), [], none⟩⟩,
   ⟨true, ⟨(some 18), .bin .sub (.t 17) (.c (.int .i64 (.ofNat 2))), [1], none⟩⟩,
   ⟨true, ⟨(some 19), .iaddr none 1 (.t 16) (.t 18), [0, 2], none⟩⟩,
   ⟨true, ⟨(some 20), .load none (.t 19), [3], none⟩⟩,
   ⟨true, ⟨(some 21), .build [(.int .i64 (.ofNat 0)), (.int .i64 (.ofNat 0)), .nilsl, .nilsl] [(0, 1, (.t 20)), (1, 1, (.c (.int .i64 (.ofNat 1))))], [4], none⟩⟩,
   ⟨true, ⟨(some 4), .alloc .dyn (.agg [(.int .i64 (.ofNat 0)), (.int .i64 (.ofNat 0)), .nilsl, .nilsl]), [], none⟩⟩,
   ⟨false, ⟨none, .store 4 (.t 4) (.t 21), [6, 5, 0, 1, 2, 3, 4, 5, 6], none⟩⟩] [] 4145160)
 (.seq (.seq (.region [⟨true, ⟨(some 22), .mov (.t 0), [], none⟩⟩,
   ⟨true, ⟨(some 23), .mov (.c (.int .i64 (.ofNat 0))), [], none⟩⟩] [] 0)
 (.block 0 (.loop (.seq (.region [⟨true, ⟨(some 24), .bin .lss (.t 23) (.t 22), [], none⟩⟩] [] 0)
 (.seq (.cond (.t 24)
  .skip
  (.exit 0))
 (.seq (.block 1 (.seq (.region [⟨true, ⟨(some 25), .mov (.t 23), [], none⟩⟩,
   ⟨true, ⟨(some 5), .mov (.t 25), [0, 0], none⟩⟩] [] 50331648)
 (.seq (.region [⟨true, ⟨(some 26), .faddr 2 (.t 4), [], none⟩⟩,
   ⟨true, ⟨(some 27), .load none (.t 26), [0], none⟩⟩,
   ⟨true, ⟨(some 28), .mov (.t 5), [], none⟩⟩,
   ⟨true, ⟨(some 29), .bin .mul (.c (.int .i64 (.ofNat 3))) (.t 28), [2], none⟩⟩,
   ⟨true, ⟨(some 30), .bslice false .dyn 1 1 [(.int .i64 (.ofNat 0))] [(0, 1, (.t 29))], [3], none⟩⟩,
   ⟨true, ⟨(some 31), .append .dyn 1 8 (.t 27) (.t 30), [1, 4], none⟩⟩,
   ⟨true, ⟨(some 32), .faddr 2 (.t 4), [0, 1, 2, 3, 4, 5], none⟩⟩,
   ⟨false, ⟨none, .store 1 (.t 32) (.t 31), [6, 5, 5, 0, 1, 2, 3, 4, 5], none⟩⟩] [] 8522825728)
 (.seq (.region [⟨true, ⟨(some 33), .mov (.t 0), [], none⟩⟩,
   ⟨true, ⟨(some 34), .bin .mul (.c (.int .i64 (.ofNat 3))) (.t 33), [0], none⟩⟩,
   ⟨true, ⟨(some 35), .mkslice .dyn 1 8 [(.int .i64 (.ofNat 0))] (.t 34) (.t 34), [1, 1], none⟩⟩,
   ⟨true, ⟨(some 6), .mov (.t 35), [2, 0, 1, 2], none⟩⟩] [] 60129542144)
 (.seq (.seq (.region [⟨true, ⟨(some 36), .mov (.t 5), [], none⟩⟩,
   ⟨true, ⟨(some 37), .bin .mul (.c (.int .i64 (.ofNat 3))) (.t 36), [0], none⟩⟩,
   ⟨true, ⟨(some 38), .mov (.t 5), [], none⟩⟩,
   ⟨true, ⟨(some 39), .bin .mul (.c (.int .i64 (.ofNat 3))) (.t 38), [2], none⟩⟩,
   ⟨true, ⟨(some 40), .bin .add (.t 39) (.c (.int .i64 (.ofNat 1))), [3], none⟩⟩,
   ⟨true, ⟨(some 41), .mov (.t 5), [], none⟩⟩,
   ⟨true, ⟨(some 42), .bin .mul (.c (.int .i64 (.ofNat 3))) (.t 41), [5], none⟩⟩,
   ⟨true, ⟨(some 43), .bin .add (.t 42) (.c (.int .i64 (.ofNat 2))), [6], none⟩⟩,
   ⟨true, ⟨(some 44), .mov (.t 5), [], none⟩⟩,
   ⟨true, ⟨(some 45), .mov (.t 0), [], none⟩⟩,
   ⟨true, ⟨(some 46), .bin .add (.t 44) (.t 45), [8, 9], none⟩⟩,
   ⟨true, ⟨(some 47), .bin .sub (.t 46) (.c (.int .i64 (.ofNat 1))), [10], none⟩⟩,
   ⟨true, ⟨(some 48), .mov (.t 0), [], none⟩⟩,
   ⟨true, ⟨(some 49), .bin .rem (.t 47) (.t 48), [11, 12], none⟩⟩,
   ⟨true, ⟨(some 50), .bin .mul (.c (.int .i64 (.ofNat 3))) (.t 49), [13], none⟩⟩,
   ⟨true, ⟨(some 51), .bin .add (.t 50) (.c (.int .i64 (.ofNat 2))), [14], none⟩⟩,
   ⟨true, ⟨(some 52), .bslice false .dyn 1 4 [(.int .i64 (.ofNat 0)), (.int .i64 (.ofNat 0)), (.int .i64 (.ofNat 0)), (.int .i64 (.ofNat 0))] [(0, 1, (.t 37)), (1, 1, (.t 40)), (2, 1, (.t 43)), (3, 1, (.t 51))], [1, 4, 7, 15], none⟩⟩,
   ⟨true, ⟨(some 53), .len 1 (.t 52), [16], none⟩⟩,
   ⟨true, ⟨(some 54), .mov (.c (.int .i64 (.ofNat 0))), [], none⟩⟩] [] 4503530907893792)
 (.block 2 (.loop (.seq (.region [⟨true, ⟨(some 55), .bin .lss (.t 54) (.t 53), [], none⟩⟩] [] 0)
 (.seq (.cond (.t 55)
  .skip
  (.exit 2))
 (.seq (.block 3 (.seq (.region [⟨true, ⟨(some 56), .iaddr none 1 (.t 52) (.t 54), [], none⟩⟩,
   ⟨true, ⟨(some 57), .load none (.t 56), [0], none⟩⟩,
   ⟨true, ⟨(some 8), .mov (.t 57), [1, 0, 1], none⟩⟩] [] 252201579132747776)
 (.region [⟨true, ⟨(some 58), .mov (.t 6), [], none⟩⟩,
   ⟨true, ⟨(some 59), .mov (.t 8), [], none⟩⟩,
   ⟨true, ⟨(some 60), .iaddr none 1 (.t 58) (.t 59), [0, 1, 0, 1], none⟩⟩,
   ⟨false, ⟨none, .store 1 (.t 60) (.c (.int .i64 (.ofNat 1))), [2, 0, 1], none⟩⟩] [] 2017612633061982464)))
 (.region [⟨true, ⟨(some 61), .bin .add (.t 54) (.c (.int .i64 (.ofNat 1))), [], none⟩⟩,
   ⟨false, ⟨(some 54), .mov (.t 61), [0], none⟩⟩] [] 2305843009213693952)))))))
 (.region [⟨true, ⟨(some 62), .faddr 3 (.t 4), [], none⟩⟩,
   ⟨true, ⟨(some 63), .load none (.t 62), [0], none⟩⟩,
   ⟨true, ⟨(some 64), .mov (.t 6), [], none⟩⟩,
   ⟨true, ⟨(some 65), .bslice false .dyn 1 1 [.nilsl] [(0, 1, (.t 64))], [2], none⟩⟩,
   ⟨true, ⟨(some 66), .append .dyn 1 24 (.t 63) (.t 65), [1, 3], none⟩⟩,
   ⟨true, ⟨(some 67), .faddr 3 (.t 4), [0, 1, 2, 3, 4], none⟩⟩,
   ⟨false, ⟨none, .store 1 (.t 67) (.t 66), [5, 4, 4, 0, 1, 2, 3, 4], none⟩⟩] [] 290567744358317031488))))))
 (.region [⟨true, ⟨(some 68), .bin .add (.t 23) (.c (.int .i64 (.ofNat 1))), [], none⟩⟩,
   ⟨false, ⟨(some 23), .mov (.t 68), [0], none⟩⟩] [] 295147905179352825856)))))))
 (.seq (.region [⟨true, ⟨(some 69), .load (some 4) (.t 4), [], none⟩⟩,
   ⟨false, ⟨none, .store 4 (.t 2) (.t 69), [0, 0], none⟩⟩,
   ⟨true, ⟨(some 3), .mov (.c (.int .i64 (.ofNat 0))), [1, 0, 1], none⟩⟩] [] 590295810358718234641)
 .ret)))))⟩

-- overseer/catalogue.Plant
def f27 : FFn := ⟨68, [.tmp 2, .cell 3 (some 4), .tmp 4, .tmp 5, .tmp 6],
 (.seq (.region [⟨true, ⟨(some 2), .mov (.c .nilsl), [], none⟩⟩,
   ⟨true, ⟨(some 3), .alloc .dyn (.agg [.nilsl, (.int .i64 (.ofNat 0)), .nilsl, .nilsl]), [], none⟩⟩,
   ⟨true, ⟨(some 4), .mov (.c (.int .i64 (.ofNat 0))), [0], none⟩⟩,
   ⟨true, ⟨(some 5), .mov (.c (.int .i64 (.ofNat 0))), [2], none⟩⟩,
   ⟨true, ⟨(some 6), .mov (.c (.int .i64 (.ofNat 0))), [3], none⟩⟩] [] 116)
 (.seq (.seq (.region [⟨true, ⟨(some 9), .mov (.t 0), [], none⟩⟩,
   ⟨true, ⟨(some 10), .bin .lss (.t 9) (.c (.int .i64 (.ofNat 0))), [0], none⟩⟩,
   ⟨true, ⟨(some 11), .mov (.t 10), [1], none⟩⟩,
   ⟨true, ⟨(some 12), .mov (.t 0), [2], (some (11, false))⟩⟩,
   ⟨true, ⟨(some 13), .bin .gtr (.t 12) (.c (.int .i64 (.ofNat 16))), [3, 2], (some (11, false))⟩⟩,
   ⟨true, ⟨(some 14), .pick (.t 11) (.c (.bool true)) (.t 13), [2, 4], none⟩⟩] [] 15872)
 (.cond (.t 14)
  (.seq (.region [⟨true, ⟨(some 15), .load (some 4) (.t 3), [], none⟩⟩,
    ⟨true, ⟨(some 2), .mov (.c .nilsl), [], none⟩⟩,
    ⟨false, ⟨none, .store 4 (.t 3) (.t 15), [0, 1, 0, 1], none⟩⟩,
    ⟨true, ⟨(some 4), .mov (.c (.int .i64 (.ofNat 0))), [2, 0, 1, 2], none⟩⟩,
    ⟨true, ⟨(some 5), .mov (.c (.int .i64 (.ofNat 0))), [3, 0, 1, 2, 3], none⟩⟩,
    ⟨true, ⟨(some 6), .mov (.c (.int .i64 (.ofNat 2))), [4, 0, 1, 2, 3, 4], none⟩⟩] [] 49153)
  .ret)
  .skip))
 (.seq (.region [⟨true, ⟨(some 16), .build [(.str []), (.bool false), (.bool false), (.bool false), (.int .i64 (.ofNat 0))] [(0, 1, (.c (.str [97]))), (2, 1, (.c (.bool true)))], [], none⟩⟩,
   ⟨true, ⟨(some 17), .build [(.str []), (.bool false), (.bool false), (.bool false), (.int .i64 (.ofNat 0))] [(0, 1, (.c (.str [102]))), (4, 1, (.c (.int .i64 (.ofNat 1))))], [], none⟩⟩,
   ⟨true, ⟨(some 18), .build [(.str []), (.bool false), (.bool false), (.bool false), (.int .i64 (.ofNat 0))] [(0, 1, (.c (.str [98]))), (2, 1, (.c (.bool true)))], [], none⟩⟩,
   ⟨true, ⟨(some 19), .bslice false .dyn 5 3 [(.str []), (.bool false), (.bool false), (.bool false), (.int .i64 (.ofNat 0)), (.str []), (.bool false), (.bool false), (.bool false), (.int .i64 (.ofNat 0)), (.str []), (.bool false), (.bool false), (.bool false), (.int .i64 (.ofNat 0))] [(0, 5, (.t 16)), (5, 5, (.t 17)), (10, 5, (.t 18))], [0, 1, 2], none⟩⟩,
   ⟨false, ⟨(some 2), .mov (.t 19), [3, 0, 1, 2, 3], none⟩⟩] [] 999536)
 (.seq (.region [⟨true, ⟨(some 20), .bslice false .dyn 1 3 [(.int .i64 (.ofNat 0)), (.int .i64 (.ofNat 0)), (.int .i64 (.ofNat 0))] [(0, 1, (.c (.int .i64 (.ofNat 0)))), (1, 1, (.c (.int .i64 (.ofNat 1)))), (2, 1, (.c (.int .i64 (.ofNat 2))))], [], none⟩⟩,
   ⟨true, ⟨(some 21), .mov (.t 0), [], none⟩⟩,
   ⟨true, ⟨(some 22), .bin .add (.t 21) (.c (.int .i64 (.ofNat 2))), [1], none⟩⟩,
   ⟨true, ⟨(some 23), .build [(.int .i64 (.ofNat 0)), (.int .i64 (.ofNat 0)), (.int .i64 (.ofNat 0))] [(0, 1, (.c (.int .i64 (.ofNat 0)))), (1, 1, (.c (.int .i64 (.ofNat 0)))), (2, 1, (.c (.int .i64 (.ofNat 0))))], [], none⟩⟩,
   ⟨true, ⟨(some 24), .build [(.int .i64 (.ofNat 0)), (.int .i64 (.ofNat 0)), (.int .i64 (.ofNat 0))] [(0, 1, (.c (.int .i64 (.ofNat 0)))), (1, 1, (.c (.int .i64 (.ofNat 1)))), (2, 1, (.c (.int .i64 (.ofNat 1))))], [], none⟩⟩,
   ⟨true, ⟨(some 25), .bslice false .dyn 3 2 [(.int .i64 (.ofNat 0)), (.int .i64 (.ofNat 0)), (.int .i64 (.ofNat 0)), (.int .i64 (.ofNat 0)), (.int .i64 (.ofNat 0)), (.int .i64 (.ofNat 0))] [(0, 3, (.t 23)), (3, 3, (.t 24))], [3, 4], none⟩⟩,
   ⟨true, ⟨(some 26), .build [.nilsl, (.int .i64 (.ofNat 0)), .nilsl, .nilsl] [(0, 1, (.t 20)), (1, 1, (.t 22)), (3, 1, (.t 25))], [0, 2, 5], none⟩⟩,
   ⟨false, ⟨none, .store 4 (.t 3) (.t 26), [6, 0, 1, 2, 3, 4, 5, 6], none⟩⟩] [] 133169152)
 (.seq (.seq (.region [⟨true, ⟨(some 27), .mov (.t 0), [], none⟩⟩,
   ⟨true, ⟨(some 28), .mov (.c (.int .i64 (.ofNat 0))), [], none⟩⟩] [] 0)
 (.block 0 (.loop (.seq (.region [⟨true, ⟨(some 29), .bin .lss (.t 28) (.t 27), [], none⟩⟩] [] 0)
 (.seq (.cond (.t 29)
  .skip
  (.exit 0))
 (.seq (.block 1 (.seq (.region [⟨true, ⟨(some 30), .mov (.t 28), [], none⟩⟩,
   ⟨true, ⟨(some 7), .mov (.t 30), [0, 0], none⟩⟩] [] 1610612736)
 (.region [⟨true, ⟨(some 31), .faddr 3 (.t 3), [], none⟩⟩,
   ⟨true, ⟨(some 32), .load none (.t 31), [0], none⟩⟩,
   ⟨true, ⟨(some 33), .mov (.t 7), [], none⟩⟩,
   ⟨true, ⟨(some 34), .bin .add (.c (.int .i64 (.ofNat 1))) (.t 33), [2], none⟩⟩,
   ⟨true, ⟨(some 35), .mov (.t 7), [], none⟩⟩,
   ⟨true, ⟨(some 36), .bin .add (.c (.int .i64 (.ofNat 2))) (.t 35), [4], none⟩⟩,
   ⟨true, ⟨(some 37), .build [(.int .i64 (.ofNat 0)), (.int .i64 (.ofNat 0)), (.int .i64 (.ofNat 0))] [(0, 1, (.t 34)), (1, 1, (.c (.int .i64 (.ofNat 0)))), (2, 1, (.t 36))], [3, 5], none⟩⟩,
   ⟨true, ⟨(some 38), .bslice false .dyn 3 1 [(.int .i64 (.ofNat 0)), (.int .i64 (.ofNat 0)), (.int .i64 (.ofNat 0))] [(0, 3, (.t 37))], [6], none⟩⟩,
   ⟨true, ⟨(some 39), .append .dyn 3 24 (.t 32) (.t 38), [1, 7], none⟩⟩,
   ⟨true, ⟨(some 40), .faddr 3 (.t 3), [0, 1, 2, 3, 4, 5, 6, 7, 8], none⟩⟩,
   ⟨false, ⟨none, .store 1 (.t 40) (.t 39), [9, 8, 8, 0, 1, 2, 3, 4, 5, 6, 7, 8], none⟩⟩] [] 2196875772032)))
 (.region [⟨true, ⟨(some 41), .bin .add (.t 28) (.c (.int .i64 (.ofNat 1))), [], none⟩⟩,
   ⟨false, ⟨(some 28), .mov (.t 41), [0], none⟩⟩] [] 2199023255552)))))))
 (.seq (.region [⟨true, ⟨(some 42), .faddr 3 (.t 3), [], none⟩⟩,
   ⟨true, ⟨(some 43), .load none (.t 42), [0], none⟩⟩,
   ⟨true, ⟨(some 44), .mov (.t 0), [], none⟩⟩,
   ⟨true, ⟨(some 45), .bin .add (.t 44) (.c (.int .i64 (.ofNat 1))), [2], none⟩⟩,
   ⟨true, ⟨(some 46), .mov (.t 0), [], none⟩⟩,
   ⟨true, ⟨(some 47), .bin .add (.t 46) (.c (.int .i64 (.ofNat 1))), [4], none⟩⟩,
   ⟨true, ⟨(some 48), .build [(.int .i64 (.ofNat 0)), (.int .i64 (.ofNat 0)), (.int .i64 (.ofNat 0))] [(0, 1, (.t 45)), (1, 1, (.c (.int .i64 (.ofNat 2)))), (2, 1, (.t 47))], [3, 5], none⟩⟩,
   ⟨true, ⟨(some 49), .bslice false .dyn 3 1 [(.int .i64 (.ofNat 0)), (.int .i64 (.ofNat 0)), (.int .i64 (.ofNat 0))] [(0, 3, (.t 48))], [6], none⟩⟩,
   ⟨true, ⟨(some 50), .append .dyn 3 24 (.t 43) (.t 49), [1, 7], none⟩⟩,
   ⟨true, ⟨(some 51), .faddr 3 (.t 3), [0, 1, 2, 3, 4, 5, 6, 7, 8], none⟩⟩,
   ⟨false, ⟨none, .store 1 (.t 51) (.t 50), [9, 8, 8, 0, 1, 2, 3, 4, 5, 6, 7, 8], none⟩⟩] [] 4499201983512576)
 (.seq (.seq (.region [⟨true, ⟨(some 52), .faddr 1 (.t 3), [], none⟩⟩,
   ⟨true, ⟨(some 53), .load none (.t 52), [0], none⟩⟩,
   ⟨true, ⟨(some 54), .mov (.c (.int .i64 (.ofNat 0))), [], none⟩⟩] [] 4503599627370496)
 (.block 2 (.loop (.seq (.region [⟨true, ⟨(some 55), .bin .lss (.t 54) (.t 53), [], none⟩⟩] [] 0)
 (.seq (.cond (.t 55)
  .skip
  (.exit 2))
 (.seq (.block 3 (.seq (.region [⟨true, ⟨(some 56), .mov (.t 54), [], none⟩⟩,
   ⟨true, ⟨(some 8), .mov (.t 56), [0, 0], none⟩⟩] [] 108086391056891904)
 (.region [⟨true, ⟨(some 57), .faddr 2 (.t 3), [], none⟩⟩,
   ⟨true, ⟨(some 58), .load none (.t 57), [0], none⟩⟩,
   ⟨true, ⟨(some 59), .mov (.t 8), [], none⟩⟩,
   ⟨true, ⟨(some 60), .bslice false .dyn 1 1 [(.int .i64 (.ofNat 0))] [(0, 1, (.t 59))], [2], none⟩⟩,
   ⟨true, ⟨(some 61), .append .dyn 1 8 (.t 58) (.t 60), [1, 3], none⟩⟩,
   ⟨true, ⟨(some 62), .faddr 2 (.t 3), [0, 1, 2, 3, 4], none⟩⟩,
   ⟨false, ⟨none, .store 1 (.t 62) (.t 61), [5, 4, 4, 0, 1, 2, 3, 4], none⟩⟩] [] 9079256848778920192)))
 (.region [⟨true, ⟨(some 63), .bin .add (.t 54) (.c (.int .i64 (.ofNat 1))), [], none⟩⟩,
   ⟨false, ⟨(some 54), .mov (.t 63), [0], none⟩⟩] [] 9223372036854775808)))))))
 (.seq (.region [⟨true, ⟨(some 64), .mov (.t 2), [], none⟩⟩,
   ⟨true, ⟨(some 65), .load (some 4) (.t 3), [], none⟩⟩,
   ⟨true, ⟨(some 66), .mov (.t 0), [], none⟩⟩,
   ⟨true, ⟨(some 67), .bin .add (.t 66) (.c (.int .i64 (.ofNat 1))), [2], none⟩⟩,
   ⟨false, ⟨(some 2), .mov (.t 64), [0, 0], none⟩⟩,
   ⟨false, ⟨none, .store 4 (.t 3) (.t 65), [1, 4, 0, 1, 4], none⟩⟩,
   ⟨true, ⟨(some 4), .mov (.c (.int .i64 (.ofNat 1))), [5, 0, 1, 4, 5], none⟩⟩,
   ⟨true, ⟨(some 5), .mov (.t 67), [3, 6, 0, 1, 2, 3, 4, 5, 6], none⟩⟩,
   ⟨true, ⟨(some 6), .mov (.c (.int .i64 (.ofNat 0))), [7, 0, 1, 2, 3, 4, 5, 6, 7], none⟩⟩] [] 276728182703407497217)
 .ret))))))))⟩

-- overseer/catalogue.check
def f28 : FFn := ⟨25, [.tmp 4],
 (.seq (.region [⟨true, ⟨(some 4), .mov (.c (.int .i64 (.ofNat 0))), [], none⟩⟩] [] 16)
 (.seq (.region [⟨true, ⟨(some 9), .mov (.t 0), [], none⟩⟩,
   ⟨true, ⟨(some 10), .call .pure (.f 13) [(.t 9)], [0], none⟩⟩,
   ⟨true, ⟨(some 8), .mov (.t 10), [1], none⟩⟩,
   ⟨true, ⟨(some 11), .extract 0 (.t 8), [2], none⟩⟩,
   ⟨true, ⟨(some 12), .extract 1 (.t 8), [2], none⟩⟩,
   ⟨true, ⟨(some 13), .extract 2 (.t 8), [2], none⟩⟩,
   ⟨true, ⟨(some 5), .mov (.t 11), [3, 1, 0, 1, 2, 3], none⟩⟩,
   ⟨true, ⟨(some 6), .mov (.t 12), [4, 6, 0, 1, 2, 3, 4, 6], none⟩⟩,
   ⟨true, ⟨(some 7), .mov (.t 13), [5, 7, 0, 1, 2, 3, 4, 5, 6, 7], none⟩⟩] [] 16129)
 (.seq (.seq (.region [⟨true, ⟨(some 14), .mov (.t 7), [], none⟩⟩,
   ⟨true, ⟨(some 15), .bin .neq (.t 14) (.c (.int .i64 (.ofNat 0))), [0], none⟩⟩] [] 16384)
 (.cond (.t 15)
  (.seq (.region [⟨true, ⟨(some 16), .mov (.t 7), [], none⟩⟩,
    ⟨true, ⟨(some 4), .mov (.t 16), [0, 0], none⟩⟩] [] 98530)
  .ret)
  .skip))
 (.seq (.seq (.region [⟨true, ⟨(some 17), .mov (.t 1), [], none⟩⟩,
   ⟨true, ⟨(some 18), .mov (.t 5), [], none⟩⟩,
   ⟨true, ⟨(some 19), .bin .lss (.t 17) (.t 18), [0, 1], none⟩⟩,
   ⟨true, ⟨(some 20), .mov (.t 19), [2], none⟩⟩,
   ⟨true, ⟨(some 21), .mov (.t 1), [3], (some (20, false))⟩⟩,
   ⟨true, ⟨(some 22), .mov (.t 6), [3], (some (20, false))⟩⟩,
   ⟨true, ⟨(some 23), .bin .gtr (.t 21) (.t 22), [4, 5, 3], (some (20, false))⟩⟩,
   ⟨true, ⟨(some 24), .pick (.t 20) (.c (.bool true)) (.t 23), [3, 6], none⟩⟩] [] 16679154)
 (.cond (.t 24)
  (.seq (.region [⟨true, ⟨(some 4), .mov (.c (.int .i64 (.ofNat 2))), [], none⟩⟩] [] 16777216)
  .ret)
  .skip))
 (.seq (.region [⟨false, ⟨(some 4), .mov (.c (.int .i64 (.ofNat 0))), [], none⟩⟩] [] 16777216)
 .ret)))))⟩

-- overseer/catalogue.counted
def f29 : FFn := ⟨15, [.cell 8 (some 5)],
 (.seq (.region [⟨true, ⟨(some 8), .alloc .dyn (.agg [(.int .i64 (.ofNat 0)), (.int .i64 (.ofNat 0)), (.int .i64 (.ofNat 0)), (.int .i64 (.ofNat 0)), .nilsl]), [], none⟩⟩] [] 0)
 (.seq (.region [⟨true, ⟨(some 9), .mov (.t 0), [], none⟩⟩,
   ⟨true, ⟨(some 10), .mov (.t 2), [], none⟩⟩,
   ⟨true, ⟨(some 11), .mov (.t 1), [], none⟩⟩,
   ⟨true, ⟨(some 12), .mov (.t 1), [], none⟩⟩,
   ⟨true, ⟨(some 13), .mov (.t 3), [], none⟩⟩,
   ⟨true, ⟨(some 14), .build [(.int .i64 (.ofNat 0)), (.int .i64 (.ofNat 0)), (.int .i64 (.ofNat 0)), (.int .i64 (.ofNat 0)), .nilsl] [(0, 1, (.t 9)), (1, 1, (.t 10)), (2, 1, (.t 11)), (3, 1, (.t 12)), (4, 1, (.t 13))], [0, 1, 2, 3, 4], none⟩⟩,
   ⟨false, ⟨none, .store 5 (.t 8) (.t 14), [5, 0, 1, 2, 3, 4, 5], none⟩⟩] [] 32271)
 .ret))⟩

-- overseer/catalogue.power
def f30 : FFn := ⟨14, [.tmp 4],
 (.seq (.region [⟨true, ⟨(some 4), .mov (.c (.int .i64 (.ofNat 0))), [], none⟩⟩] [] 16)
 (.seq (.region [⟨true, ⟨(some 5), .mov (.c (.int .i64 (.ofNat 1))), [], none⟩⟩] [] 0)
 (.seq (.seq (.region [⟨true, ⟨(some 6), .mov (.t 1), [], none⟩⟩,
   ⟨true, ⟨(some 7), .mov (.c (.int .i64 (.ofNat 0))), [], none⟩⟩] [] 2)
 (.block 0 (.loop (.seq (.region [⟨true, ⟨(some 8), .bin .lss (.t 7) (.t 6), [], none⟩⟩] [] 0)
 (.seq (.cond (.t 8)
  .skip
  (.exit 0))
 (.seq (.block 1 (.region [⟨true, ⟨(some 9), .mov (.t 5), [], none⟩⟩,
   ⟨true, ⟨(some 10), .mov (.t 0), [], none⟩⟩,
   ⟨true, ⟨(some 11), .bin .mul (.t 9) (.t 10), [0, 1], none⟩⟩,
   ⟨false, ⟨(some 5), .mov (.t 11), [2, 0, 1, 2], none⟩⟩] [] 3840))
 (.region [⟨true, ⟨(some 12), .bin .add (.t 7) (.c (.int .i64 (.ofNat 1))), [], none⟩⟩,
   ⟨false, ⟨(some 7), .mov (.t 12), [0], none⟩⟩] [] 4096)))))))
 (.seq (.region [⟨true, ⟨(some 13), .mov (.t 5), [], none⟩⟩,
   ⟨true, ⟨(some 4), .mov (.t 13), [0, 0], none⟩⟩] [] 8417)
 .ret))))⟩

-- overseer/overseerlaw59.power
def f31 : FFn := ⟨16, [.tmp 4],
 (.seq (.region [⟨true, ⟨(some 4), .mov (.c (.int .i64 (.ofNat 0))), [], none⟩⟩] [] 16)
 (.seq (.region [⟨true, ⟨(some 5), .mov (.c (.int .i64 (.ofNat 1))), [], none⟩⟩] [] 0)
 (.seq (.seq (.region [⟨true, ⟨(some 6), .mov (.c (.int .i64 (.ofNat 0))), [], none⟩⟩] [] 0)
 (.block 0 (.loop (.seq (.seq (.region [⟨true, ⟨(some 7), .mov (.t 6), [], none⟩⟩,
   ⟨true, ⟨(some 8), .mov (.t 1), [], none⟩⟩,
   ⟨true, ⟨(some 9), .bin .lss (.t 7) (.t 8), [0, 1], none⟩⟩] [] 384)
 (.cond (.t 9)
  .skip
  (.exit 0)))
 (.seq (.block 1 (.region [⟨true, ⟨(some 12), .mov (.t 5), [], none⟩⟩,
   ⟨true, ⟨(some 13), .mov (.t 0), [], none⟩⟩,
   ⟨true, ⟨(some 14), .bin .mul (.t 12) (.t 13), [0, 1], none⟩⟩,
   ⟨false, ⟨(some 5), .mov (.t 14), [2, 0, 1, 2], none⟩⟩] [] 29184))
 (.region [⟨true, ⟨(some 10), .mov (.t 6), [], none⟩⟩,
   ⟨true, ⟨(some 11), .bin .add (.t 10) (.c (.int .i64 (.ofNat 1))), [0], none⟩⟩,
   ⟨false, ⟨(some 6), .mov (.t 11), [1, 0, 1], none⟩⟩] [] 3072))))))
 (.seq (.region [⟨true, ⟨(some 15), .mov (.t 5), [], none⟩⟩,
   ⟨true, ⟨(some 4), .mov (.t 15), [0, 0], none⟩⟩] [] 32867)
 .ret))))⟩

-- overseer/catalogue.machines
def f32 : FFn := ⟨22, [.cell 2 (some 5)],
 (.seq (.region [⟨true, ⟨(some 2), .alloc .dyn (.agg [.nilsl, .nilsl, .nilsl, .nilsl, .nilsl]), [], none⟩⟩] [] 0)
 (.seq (.region [⟨true, ⟨(some 5), .mov (.t 0), [], none⟩⟩,
   ⟨true, ⟨(some 6), .bslice false .dyn 1 2 [(.str []), (.str [])] [(0, 1, (.c (.str [115, 116, 97, 114, 116]))), (1, 1, (.c (.str [102, 105, 110, 105, 115, 104])))], [], none⟩⟩,
   ⟨true, ⟨(some 7), .call .heap (.f 58) [(.t 5), (.t 6)], [0, 1], none⟩⟩,
   ⟨true, ⟨(some 8), .build [.nilsl, .nilsl, .nilsl, .nilsl, .nilsl] [(0, 1, (.t 7))], [2], none⟩⟩,
   ⟨true, ⟨(some 3), .alloc .dyn (.agg [.nilsl, .nilsl, .nilsl, .nilsl, .nilsl]), [], none⟩⟩,
   ⟨false, ⟨none, .store 5 (.t 3) (.t 8), [4, 3, 2, 0, 1, 2, 3, 4], none⟩⟩] [] 480)
 (.seq (.seq (.region [⟨true, ⟨(some 9), .mov (.t 0), [], none⟩⟩,
   ⟨true, ⟨(some 10), .mov (.c (.int .i64 (.ofNat 0))), [], none⟩⟩] [] 1)
 (.block 0 (.loop (.seq (.region [⟨true, ⟨(some 11), .bin .lss (.t 10) (.t 9), [], none⟩⟩] [] 0)
 (.seq (.cond (.t 11)
  .skip
  (.exit 0))
 (.seq (.block 1 (.seq (.region [⟨true, ⟨(some 12), .mov (.t 10), [], none⟩⟩,
   ⟨true, ⟨(some 4), .mov (.t 12), [0, 0], none⟩⟩] [] 6144)
 (.region [⟨true, ⟨(some 13), .faddr 1 (.t 3), [], none⟩⟩,
   ⟨true, ⟨(some 14), .load none (.t 13), [0], none⟩⟩,
   ⟨true, ⟨(some 15), .mov (.t 4), [], none⟩⟩,
   ⟨true, ⟨(some 16), .call .pure (.f 59) [(.c (.str [109, 97, 99, 104, 105, 110, 101])), (.t 15)], [2], none⟩⟩,
   ⟨true, ⟨(some 17), .bslice false .dyn 5 1 [(.str []), .nilsl, (.int .i64 (.ofNat 0)), .nilsl, .nilsl] [(0, 5, (.t 16))], [3], none⟩⟩,
   ⟨true, ⟨(some 18), .append .dyn 5 96 (.t 14) (.t 17), [1, 4, 3], none⟩⟩,
   ⟨true, ⟨(some 19), .faddr 1 (.t 3), [0, 1, 2, 3, 4, 5], none⟩⟩,
   ⟨false, ⟨none, .store 1 (.t 19) (.t 18), [6, 5, 5, 0, 1, 2, 3, 4, 5], none⟩⟩] [(1, 4)] 1040400)))
 (.region [⟨true, ⟨(some 20), .bin .add (.t 10) (.c (.int .i64 (.ofNat 1))), [], none⟩⟩,
   ⟨false, ⟨(some 10), .mov (.t 20), [0], none⟩⟩] [] 1048576)))))))
 (.seq (.region [⟨true, ⟨(some 21), .load (some 5) (.t 3), [], none⟩⟩,
   ⟨false, ⟨none, .store 5 (.t 2) (.t 21), [0, 0], none⟩⟩] [] 2098696)
 .ret))))⟩

-- overseer/catalogue.buffer
def f33 : FFn := ⟨63, [.cell 4 (some 5)],
 (.seq (.region [⟨true, ⟨(some 4), .alloc .dyn (.agg [(.str []), .nilsl, (.int .i64 (.ofNat 0)), .nilsl, .nilsl]), [], none⟩⟩] [] 0)
 (.seq (.region [⟨true, ⟨(some 7), .mov (.t 0), [], none⟩⟩,
   ⟨true, ⟨(some 8), .bin .mul (.c (.int .i64 (.ofNat 2))) (.t 7), [0], none⟩⟩,
   ⟨true, ⟨(some 9), .bin .add (.t 8) (.c (.int .i64 (.ofNat 1))), [1], none⟩⟩,
   ⟨true, ⟨(some 10), .mov (.t 0), [], none⟩⟩,
   ⟨true, ⟨(some 11), .bin .mul (.c (.int .i64 (.ofNat 2))) (.t 10), [3], none⟩⟩,
   ⟨true, ⟨(some 12), .bin .add (.t 11) (.c (.int .i64 (.ofNat 2))), [4], none⟩⟩,
   ⟨true, ⟨(some 13), .bslice false .dyn 1 2 [(.int .i64 (.ofNat 0)), (.int .i64 (.ofNat 0))] [(0, 1, (.t 9)), (1, 1, (.t 12))], [2, 5], none⟩⟩,
   ⟨true, ⟨(some 14), .mov (.t 1), [], none⟩⟩,
   ⟨true, ⟨(some 15), .bin .add (.t 14) (.c (.int .i64 (.ofNat 1))), [7], none⟩⟩,
   ⟨true, ⟨(some 16), .build [.nilsl, (.int .i64 (.ofNat 0)), .nilsl, .nilsl] [(0, 1, (.t 13)), (1, 1, (.t 15))], [6, 8], none⟩⟩,
   ⟨true, ⟨(some 5), .alloc .dyn (.agg [.nilsl, (.int .i64 (.ofNat 0)), .nilsl, .nilsl]), [], none⟩⟩,
   ⟨false, ⟨none, .store 4 (.t 5) (.t 16), [10, 9, 0, 1, 2, 3, 4, 5, 6, 7, 8, 9, 10], none⟩⟩] [] 130944)
 (.seq (.seq (.region [⟨true, ⟨(some 17), .faddr 1 (.t 5), [], none⟩⟩,
   ⟨true, ⟨(some 18), .load none (.t 17), [0], none⟩⟩,
   ⟨true, ⟨(some 19), .mov (.c (.int .i64 (.ofNat 0))), [], none⟩⟩] [] 131072)
 (.block 0 (.loop (.seq (.region [⟨true, ⟨(some 20), .bin .lss (.t 19) (.t 18), [], none⟩⟩] [] 0)
 (.seq (.cond (.t 20)
  .skip
  (.exit 0))
 (.seq (.block 1 (.seq (.region [⟨true, ⟨(some 21), .mov (.t 19), [], none⟩⟩,
   ⟨true, ⟨(some 6), .mov (.t 21), [0, 0], none⟩⟩] [] 3145728)
 (.seq (.region [⟨true, ⟨(some 22), .faddr 2 (.t 5), [], none⟩⟩,
   ⟨true, ⟨(some 23), .load none (.t 22), [0], none⟩⟩,
   ⟨true, ⟨(some 24), .mov (.t 6), [], none⟩⟩,
   ⟨true, ⟨(some 25), .bslice false .dyn 1 1 [(.int .i64 (.ofNat 0))] [(0, 1, (.t 24))], [2], none⟩⟩,
   ⟨true, ⟨(some 26), .append .dyn 1 8 (.t 23) (.t 25), [1, 3], none⟩⟩,
   ⟨true, ⟨(some 27), .faddr 2 (.t 5), [0, 1, 2, 3, 4], none⟩⟩,
   ⟨false, ⟨none, .store 1 (.t 27) (.t 26), [5, 4, 4, 0, 1, 2, 3, 4], none⟩⟩] [] 264241152)
 (.seq (.seq (.region [⟨true, ⟨(some 28), .mov (.t 6), [], none⟩⟩,
   ⟨true, ⟨(some 29), .mov (.t 1), [], none⟩⟩,
   ⟨true, ⟨(some 30), .bin .lss (.t 28) (.t 29), [0, 1], none⟩⟩] [] 805306368)
 (.cond (.t 30)
  (.region [⟨true, ⟨(some 31), .faddr 3 (.t 5), [], none⟩⟩,
    ⟨true, ⟨(some 32), .load none (.t 31), [0], none⟩⟩,
    ⟨true, ⟨(some 33), .mov (.t 6), [], none⟩⟩,
    ⟨true, ⟨(some 34), .mov (.t 0), [], none⟩⟩,
    ⟨true, ⟨(some 35), .bin .mul (.c (.int .i64 (.ofNat 2))) (.t 34), [3], none⟩⟩,
    ⟨true, ⟨(some 36), .bin .add (.t 35) (.c (.int .i64 (.ofNat 1))), [4], none⟩⟩,
    ⟨true, ⟨(some 37), .mov (.t 6), [], none⟩⟩,
    ⟨true, ⟨(some 38), .bin .add (.t 37) (.c (.int .i64 (.ofNat 1))), [6], none⟩⟩,
    ⟨true, ⟨(some 39), .build [(.int .i64 (.ofNat 0)), (.int .i64 (.ofNat 0)), (.int .i64 (.ofNat 0))] [(0, 1, (.t 33)), (1, 1, (.t 36)), (2, 1, (.t 38))], [2, 5, 7], none⟩⟩,
    ⟨true, ⟨(some 40), .bslice false .dyn 3 1 [(.int .i64 (.ofNat 0)), (.int .i64 (.ofNat 0)), (.int .i64 (.ofNat 0))] [(0, 3, (.t 39))], [8], none⟩⟩,
    ⟨true, ⟨(some 41), .append .dyn 3 24 (.t 32) (.t 40), [1, 9], none⟩⟩,
    ⟨true, ⟨(some 42), .faddr 3 (.t 5), [0, 1, 2, 3, 4, 5, 6, 7, 8, 9, 10], none⟩⟩,
    ⟨false, ⟨none, .store 1 (.t 42) (.t 41), [11, 10, 10, 0, 1, 2, 3, 4, 5, 6, 7, 8, 9, 10], none⟩⟩] [] 8795019280384)
  .skip))
 (.seq (.region [⟨true, ⟨(some 43), .mov (.t 6), [], none⟩⟩,
   ⟨true, ⟨(some 44), .bin .gtr (.t 43) (.c (.int .i64 (.ofNat 0))), [0], none⟩⟩] [] 8797166764032)
 (.cond (.t 44)
  (.region [⟨true, ⟨(some 45), .faddr 3 (.t 5), [], none⟩⟩,
    ⟨true, ⟨(some 46), .load none (.t 45), [0], none⟩⟩,
    ⟨true, ⟨(some 47), .mov (.t 6), [], none⟩⟩,
    ⟨true, ⟨(some 48), .mov (.t 0), [], none⟩⟩,
    ⟨true, ⟨(some 49), .bin .mul (.c (.int .i64 (.ofNat 2))) (.t 48), [3], none⟩⟩,
    ⟨true, ⟨(some 50), .bin .add (.t 49) (.c (.int .i64 (.ofNat 2))), [4], none⟩⟩,
    ⟨true, ⟨(some 51), .mov (.t 6), [], none⟩⟩,
    ⟨true, ⟨(some 52), .bin .sub (.t 51) (.c (.int .i64 (.ofNat 1))), [6], none⟩⟩,
    ⟨true, ⟨(some 53), .build [(.int .i64 (.ofNat 0)), (.int .i64 (.ofNat 0)), (.int .i64 (.ofNat 0))] [(0, 1, (.t 47)), (1, 1, (.t 50)), (2, 1, (.t 52))], [2, 5, 7], none⟩⟩,
    ⟨true, ⟨(some 54), .bslice false .dyn 3 1 [(.int .i64 (.ofNat 0)), (.int .i64 (.ofNat 0)), (.int .i64 (.ofNat 0))] [(0, 3, (.t 53))], [8], none⟩⟩,
    ⟨true, ⟨(some 55), .append .dyn 3 24 (.t 46) (.t 54), [1, 9], none⟩⟩,
    ⟨true, ⟨(some 56), .faddr 3 (.t 5), [0, 1, 2, 3, 4, 5, 6, 7, 8, 9, 10], none⟩⟩,
    ⟨false, ⟨none, .store 1 (.t 56) (.t 55), [11, 10, 10, 0, 1, 2, 3, 4, 5, 6, 7, 8, 9, 10], none⟩⟩] [] 144097595889811520)
  .skip))))))
 (.region [⟨true, ⟨(some 57), .bin .add (.t 19) (.c (.int .i64 (.ofNat 1))), [], none⟩⟩,
   ⟨false, ⟨(some 19), .mov (.t 57), [0], none⟩⟩] [] 144132780261900352)))))))
 (.seq (.region [⟨true, ⟨(some 58), .mov (.t 0), [], none⟩⟩,
   ⟨true, ⟨(some 59), .call .borrow (.f 60) [(.t 58)], [0], none⟩⟩,
   ⟨true, ⟨(some 60), .bin .add (.c (.str [98, 117, 102, 102, 101, 114])) (.t 59), [1], none⟩⟩,
   ⟨true, ⟨(some 61), .load (some 4) (.t 5), [], none⟩⟩,
   ⟨true, ⟨(some 62), .build [(.str []), .nilsl, (.int .i64 (.ofNat 0)), .nilsl, .nilsl] [(0, 1, (.t 60)), (1, 4, (.t 61))], [2, 3], none⟩⟩,
   ⟨false, ⟨none, .store 5 (.t 4) (.t 62), [4, 1, 0, 1, 2, 3, 4], none⟩⟩] [] 8935141660703850531)
 .ret))))⟩

-- overseer/catalogue.dining
def f34 : FFn := ⟨130, [.cell 2 (some 5)],
 (.seq (.region [⟨true, ⟨(some 2), .alloc .dyn (.agg [.nilsl, .nilsl, .nilsl, .nilsl, .nilsl]), [], none⟩⟩] [] 0)
 (.seq (.region [⟨true, ⟨(some 14), .mov (.t 0), [], none⟩⟩,
   ⟨true, ⟨(some 15), .bslice false .dyn 1 3 [(.str []), (.str []), (.str [])] [(0, 1, (.c (.str [108, 101, 102, 116]))), (1, 1, (.c (.str [114, 105, 103, 104, 116]))), (2, 1, (.c (.str [112, 117, 116])))], [], none⟩⟩,
   ⟨true, ⟨(some 16), .call .heap (.f 58) [(.t 14), (.t 15)], [0, 1], none⟩⟩,
   ⟨true, ⟨(some 17), .build [.nilsl, .nilsl, .nilsl, .nilsl, .nilsl] [(0, 1, (.t 16))], [2], none⟩⟩,
   ⟨true, ⟨(some 3), .alloc .dyn (.agg [.nilsl, .nilsl, .nilsl, .nilsl, .nilsl]), [], none⟩⟩,
   ⟨false, ⟨none, .store 5 (.t 3) (.t 17), [4, 3, 2, 0, 1, 2, 3, 4], none⟩⟩] [] 245760)
 (.seq (.seq (.region [⟨true, ⟨(some 18), .mov (.t 0), [], none⟩⟩,
   ⟨true, ⟨(some 19), .mov (.c (.int .i64 (.ofNat 0))), [], none⟩⟩] [] 0)
 (.block 0 (.loop (.seq (.region [⟨true, ⟨(some 20), .bin .lss (.t 19) (.t 18), [], none⟩⟩] [] 0)
 (.seq (.cond (.t 20)
  .skip
  (.exit 0))
 (.seq (.block 1 (.seq (.region [⟨true, ⟨(some 21), .mov (.t 19), [], none⟩⟩,
   ⟨true, ⟨(some 4), .mov (.t 21), [0, 0], none⟩⟩] [] 3145728)
 (.seq (.region [⟨true, ⟨(some 22), .mov (.t 4), [], none⟩⟩,
   ⟨true, ⟨(some 23), .bin .mul (.c (.int .i64 (.ofNat 3))) (.t 22), [0], none⟩⟩,
   ⟨true, ⟨(some 24), .mov (.t 4), [], none⟩⟩,
   ⟨true, ⟨(some 25), .bin .mul (.c (.int .i64 (.ofNat 3))) (.t 24), [2], none⟩⟩,
   ⟨true, ⟨(some 26), .bin .add (.t 25) (.c (.int .i64 (.ofNat 1))), [3], none⟩⟩,
   ⟨true, ⟨(some 27), .mov (.t 4), [], none⟩⟩,
   ⟨true, ⟨(some 28), .bin .mul (.c (.int .i64 (.ofNat 3))) (.t 27), [5], none⟩⟩,
   ⟨true, ⟨(some 29), .bin .add (.t 28) (.c (.int .i64 (.ofNat 2))), [6], none⟩⟩,
   ⟨true, ⟨(some 30), .bslice false .dyn 1 3 [(.int .i64 (.ofNat 0)), (.int .i64 (.ofNat 0)), (.int .i64 (.ofNat 0))] [(0, 1, (.t 23)), (1, 1, (.t 26)), (2, 1, (.t 29))], [1, 4, 7], none⟩⟩,
   ⟨true, ⟨(some 31), .bslice false .dyn 1 1 [(.int .i64 (.ofNat 0))] [(0, 1, (.c (.int .i64 (.ofNat 0))))], [], none⟩⟩,
   ⟨true, ⟨(some 32), .build [.nilsl, (.int .i64 (.ofNat 0)), .nilsl, .nilsl] [(0, 1, (.t 30)), (1, 1, (.c (.int .i64 (.ofNat 3)))), (2, 1, (.t 31))], [8, 9], none⟩⟩,
   ⟨true, ⟨(some 5), .alloc .dyn (.agg [.nilsl, (.int .i64 (.ofNat 0)), .nilsl, .nilsl]), [], none⟩⟩,
   ⟨false, ⟨none, .store 4 (.t 5) (.t 32), [11, 10, 0, 1, 2, 3, 4, 5, 6, 7, 8, 9, 10, 11], none⟩⟩] [] 8585740288)
 (.seq (.seq (.region [⟨true, ⟨(some 33), .mov (.c (.int .i64 (.ofNat 0))), [], none⟩⟩] [] 0)
 (.block 2 (.loop (.seq (.region [⟨true, ⟨(some 34), .bin .lss (.t 33) (.c (.int .i64 (.ofNat 3))), [], none⟩⟩] [] 0)
 (.seq (.cond (.t 34)
  .skip
  (.exit 2))
 (.seq (.block 3 (.seq (.region [⟨true, ⟨(some 35), .mov (.t 33), [], none⟩⟩,
   ⟨true, ⟨(some 6), .mov (.t 35), [0, 0], none⟩⟩] [] 51539607552)
 (.region [⟨true, ⟨(some 36), .faddr 3 (.t 5), [], none⟩⟩,
   ⟨true, ⟨(some 37), .load none (.t 36), [0], none⟩⟩,
   ⟨true, ⟨(some 38), .mov (.t 6), [], none⟩⟩,
   ⟨true, ⟨(some 39), .mov (.t 4), [], none⟩⟩,
   ⟨true, ⟨(some 40), .bin .mul (.c (.int .i64 (.ofNat 3))) (.t 39), [3], none⟩⟩,
   ⟨true, ⟨(some 41), .mov (.t 6), [], none⟩⟩,
   ⟨true, ⟨(some 42), .bin .add (.t 40) (.t 41), [4, 5], none⟩⟩,
   ⟨true, ⟨(some 43), .mov (.t 6), [], none⟩⟩,
   ⟨true, ⟨(some 44), .bin .add (.t 43) (.c (.int .i64 (.ofNat 1))), [7], none⟩⟩,
   ⟨true, ⟨(some 45), .bin .rem (.t 44) (.c (.int .i64 (.ofNat 3))), [8], none⟩⟩,
   ⟨true, ⟨(some 46), .build [(.int .i64 (.ofNat 0)), (.int .i64 (.ofNat 0)), (.int .i64 (.ofNat 0))] [(0, 1, (.t 38)), (1, 1, (.t 42)), (2, 1, (.t 45))], [2, 6, 9], none⟩⟩,
   ⟨true, ⟨(some 47), .bslice false .dyn 3 1 [(.int .i64 (.ofNat 0)), (.int .i64 (.ofNat 0)), (.int .i64 (.ofNat 0))] [(0, 3, (.t 46))], [10], none⟩⟩,
   ⟨true, ⟨(some 48), .append .dyn 3 24 (.t 37) (.t 47), [1, 11], none⟩⟩,
   ⟨true, ⟨(some 49), .faddr 3 (.t 5), [0, 1, 2, 3, 4, 5, 6, 7, 8, 9, 10, 11, 12], none⟩⟩,
   ⟨false, ⟨none, .store 1 (.t 49) (.t 48), [13, 12, 12, 0, 1, 2, 3, 4, 5, 6, 7, 8, 9, 10, 11, 12], none⟩⟩] [] 1125831187365952)))
 (.region [⟨true, ⟨(some 50), .bin .add (.t 33) (.c (.int .i64 (.ofNat 1))), [], none⟩⟩,
   ⟨false, ⟨(some 33), .mov (.t 50), [0], none⟩⟩] [] 1125899906842624)))))))
 (.region [⟨true, ⟨(some 51), .faddr 1 (.t 3), [], none⟩⟩,
   ⟨true, ⟨(some 52), .load none (.t 51), [0], none⟩⟩,
   ⟨true, ⟨(some 53), .mov (.t 4), [], none⟩⟩,
   ⟨true, ⟨(some 54), .call .borrow (.f 60) [(.t 53)], [2], none⟩⟩,
   ⟨true, ⟨(some 55), .bin .add (.c (.str [112, 104, 105, 108, 111, 115, 111, 112, 104, 101, 114])) (.t 54), [3], none⟩⟩,
   ⟨true, ⟨(some 56), .load (some 4) (.t 5), [], none⟩⟩,
   ⟨true, ⟨(some 57), .build [(.str []), .nilsl, (.int .i64 (.ofNat 0)), .nilsl, .nilsl] [(0, 1, (.t 55)), (1, 4, (.t 56))], [4, 5], none⟩⟩,
   ⟨true, ⟨(some 58), .bslice false .dyn 5 1 [(.str []), .nilsl, (.int .i64 (.ofNat 0)), .nilsl, .nilsl] [(0, 5, (.t 57))], [6], none⟩⟩,
   ⟨true, ⟨(some 59), .append .dyn 5 96 (.t 52) (.t 58), [1, 7, 3], none⟩⟩,
   ⟨true, ⟨(some 60), .faddr 1 (.t 3), [0, 1, 2, 3, 4, 5, 6, 7, 8], none⟩⟩,
   ⟨false, ⟨none, .store 1 (.t 60) (.t 59), [9, 8, 8, 0, 1, 2, 3, 4, 5, 6, 7, 8], none⟩⟩] [(1, 7)] 2303591217989943344)))))
 (.region [⟨true, ⟨(some 61), .bin .add (.t 19) (.c (.int .i64 (.ofNat 1))), [], none⟩⟩,
   ⟨false, ⟨(some 19), .mov (.t 61), [0], none⟩⟩] [] 2305843009213693952)))))))
 (.seq (.seq (.region [⟨true, ⟨(some 62), .mov (.t 0), [], none⟩⟩,
   ⟨true, ⟨(some 63), .mov (.c (.int .i64 (.ofNat 0))), [], none⟩⟩] [] 786432)
 (.block 4 (.loop (.seq (.region [⟨true, ⟨(some 64), .bin .lss (.t 63) (.t 62), [], none⟩⟩] [] 0)
 (.seq (.cond (.t 64)
  .skip
  (.exit 4))
 (.seq (.block 5 (.seq (.region [⟨true, ⟨(some 65), .mov (.t 63), [], none⟩⟩,
   ⟨true, ⟨(some 7), .mov (.t 65), [0, 0], none⟩⟩] [] 55340232221128654848)
 (.seq (.region [⟨true, ⟨(some 66), .mov (.t 7), [], none⟩⟩,
   ⟨true, ⟨(some 67), .mov (.t 0), [], none⟩⟩,
   ⟨true, ⟨(some 68), .bin .add (.t 66) (.t 67), [0, 1], none⟩⟩,
   ⟨true, ⟨(some 69), .bin .sub (.t 68) (.c (.int .i64 (.ofNat 1))), [2], none⟩⟩,
   ⟨true, ⟨(some 70), .mov (.t 0), [], none⟩⟩,
   ⟨true, ⟨(some 71), .bin .rem (.t 69) (.t 70), [3, 4], none⟩⟩,
   ⟨true, ⟨(some 8), .mov (.t 71), [5, 0, 1, 2, 3, 4, 5], none⟩⟩] [] 4648579506574807007232)
 (.seq (.region [⟨true, ⟨(some 72), .mov (.t 7), [], none⟩⟩,
   ⟨true, ⟨(some 73), .bin .mul (.c (.int .i64 (.ofNat 3))) (.t 72), [0], none⟩⟩,
   ⟨true, ⟨(some 74), .mov (.t 7), [], none⟩⟩,
   ⟨true, ⟨(some 75), .bin .mul (.c (.int .i64 (.ofNat 3))) (.t 74), [2], none⟩⟩,
   ⟨true, ⟨(some 76), .bin .add (.t 75) (.c (.int .i64 (.ofNat 2))), [3], none⟩⟩,
   ⟨true, ⟨(some 77), .mov (.t 8), [], none⟩⟩,
   ⟨true, ⟨(some 78), .bin .mul (.c (.int .i64 (.ofNat 3))) (.t 77), [5], none⟩⟩,
   ⟨true, ⟨(some 79), .bin .add (.t 78) (.c (.int .i64 (.ofNat 1))), [6], none⟩⟩,
   ⟨true, ⟨(some 80), .mov (.t 8), [], none⟩⟩,
   ⟨true, ⟨(some 81), .bin .mul (.c (.int .i64 (.ofNat 3))) (.t 80), [8], none⟩⟩,
   ⟨true, ⟨(some 82), .bin .add (.t 81) (.c (.int .i64 (.ofNat 2))), [9], none⟩⟩,
   ⟨true, ⟨(some 83), .bslice false .dyn 1 4 [(.int .i64 (.ofNat 0)), (.int .i64 (.ofNat 0)), (.int .i64 (.ofNat 0)), (.int .i64 (.ofNat 0))] [(0, 1, (.t 73)), (1, 1, (.t 76)), (2, 1, (.t 79)), (3, 1, (.t 82))], [1, 4, 7, 10], none⟩⟩,
   ⟨true, ⟨(some 84), .bslice false .dyn 1 1 [(.int .i64 (.ofNat 0))] [(0, 1, (.c (.int .i64 (.ofNat 0))))], [], none⟩⟩,
   ⟨true, ⟨(some 85), .build [.nilsl, (.int .i64 (.ofNat 0)), .nilsl, .nilsl] [(0, 1, (.t 83)), (1, 1, (.c (.int .i64 (.ofNat 2)))), (2, 1, (.t 84))], [11, 12], none⟩⟩,
   ⟨true, ⟨(some 9), .alloc .dyn (.agg [.nilsl, (.int .i64 (.ofNat 0)), .nilsl, .nilsl]), [], none⟩⟩,
   ⟨false, ⟨none, .store 4 (.t 9) (.t 85), [14, 13, 0, 1, 2, 3, 4, 5, 6, 7, 8, 9, 10, 11, 12, 13, 14], none⟩⟩] [] 77366530088853397535981824)
 (.seq (.region [⟨true, ⟨(some 86), .faddr 0 (.t 9), [], none⟩⟩,
   ⟨true, ⟨(some 87), .load none (.t 86), [0], none⟩⟩,
   ⟨true, ⟨(some 88), .call .heap (.f 61) [(.t 87)], [1], none⟩⟩] [] 541598767187353870268366848)
 (.seq (.seq (.region [⟨true, ⟨(some 89), .mov (.c (.int .i64 (.ofNat 0))), [], none⟩⟩] [] 0)
 (.block 6 (.loop (.seq (.region [⟨true, ⟨(some 90), .bin .lss (.t 89) (.c (.int .i64 (.ofNat 2))), [], none⟩⟩] [] 0)
 (.seq (.cond (.t 90)
  .skip
  (.exit 6))
 (.seq (.block 7 (.seq (.region [⟨true, ⟨(some 91), .mov (.t 89), [], none⟩⟩,
   ⟨true, ⟨(some 10), .mov (.t 91), [0, 0], none⟩⟩] [] 3713820117856140824697372672)
 (.seq (.region [⟨true, ⟨(some 92), .faddr 0 (.t 9), [], none⟩⟩,
   ⟨true, ⟨(some 93), .load none (.t 92), [0], none⟩⟩,
   ⟨true, ⟨(some 94), .len 1 (.t 93), [1], none⟩⟩,
   ⟨true, ⟨(some 95), .mov (.c (.int .i64 (.ofNat 0))), [], none⟩⟩] [] 4951760157141521099596496896)
 (.block 8 (.loop (.seq (.region [⟨true, ⟨(some 96), .bin .lss (.t 95) (.t 94), [], none⟩⟩] [] 0)
 (.seq (.cond (.t 96)
  .skip
  (.exit 8))
 (.seq (.block 9 (.seq (.region [⟨true, ⟨(some 97), .iaddr none 1 (.t 93) (.t 95), [], none⟩⟩,
   ⟨true, ⟨(some 98), .load none (.t 97), [0], none⟩⟩,
   ⟨true, ⟨(some 12), .mov (.t 98), [1, 0, 1], none⟩⟩] [] 554597137599850363154807652352)
 (.seq (.region [⟨true, ⟨(some 99), .mov (.t 12), [], none⟩⟩,
   ⟨true, ⟨(some 100), .bin .rem (.t 99) (.c (.int .i64 (.ofNat 3))), [0], none⟩⟩,
   ⟨true, ⟨(some 101), .bin .eql (.t 100) (.c (.int .i64 (.ofNat 2))), [1], none⟩⟩,
   ⟨true, ⟨(some 13), .mov (.t 101), [2, 0, 1, 2], none⟩⟩] [] 4436777100798802905238461218816)
 (.seq (.region [⟨true, ⟨(some 102), .mov (.t 13), [], none⟩⟩,
   ⟨true, ⟨(some 103), .mov (.t 10), [], none⟩⟩,
   ⟨true, ⟨(some 104), .bin .eql (.t 103) (.c (.int .i64 (.ofNat 1))), [1], none⟩⟩,
   ⟨true, ⟨(some 105), .eq (.flat false [.b]) false (.t 102) (.t 104), [0, 2], none⟩⟩] [] 35494216806390423241907689758720)
 (.cond (.t 105)
  (.region [⟨true, ⟨(some 106), .faddr 3 (.t 9), [], none⟩⟩,
    ⟨true, ⟨(some 107), .load none (.t 106), [0], none⟩⟩,
    ⟨true, ⟨(some 108), .mov (.t 10), [], none⟩⟩,
    ⟨true, ⟨(some 109), .mov (.t 12), [], none⟩⟩,
    ⟨true, ⟨(some 110), .mov (.t 10), [], none⟩⟩,
    ⟨true, ⟨(some 111), .bin .sub (.c (.int .i64 (.ofNat 1))) (.t 110), [4], none⟩⟩,
    ⟨true, ⟨(some 112), .build [(.int .i64 (.ofNat 0)), (.int .i64 (.ofNat 0)), (.int .i64 (.ofNat 0))] [(0, 1, (.t 108)), (1, 1, (.t 109)), (2, 1, (.t 111))], [2, 3, 5], none⟩⟩,
    ⟨true, ⟨(some 113), .bslice false .dyn 3 1 [(.int .i64 (.ofNat 0)), (.int .i64 (.ofNat 0)), (.int .i64 (.ofNat 0))] [(0, 3, (.t 112))], [6], none⟩⟩,
    ⟨true, ⟨(some 114), .append .dyn 3 24 (.t 107) (.t 113), [1, 7], none⟩⟩,
    ⟨true, ⟨(some 115), .faddr 3 (.t 9), [0, 1, 2, 3, 4, 5, 6, 7, 8], none⟩⟩,
    ⟨false, ⟨none, .store 1 (.t 115) (.t 114), [9, 8, 8, 0, 1, 2, 3, 4, 5, 6, 7, 8], none⟩⟩] [] 83036184917349938715640046764953600)
  .skip)))))
 (.region [⟨true, ⟨(some 116), .bin .add (.t 95) (.c (.int .i64 (.ofNat 1))), [], none⟩⟩,
   ⟨false, ⟨(some 95), .mov (.t 116), [0], none⟩⟩] [] 83117314555764545397335835770097664)))))))))
 (.region [⟨true, ⟨(some 117), .bin .add (.t 89) (.c (.int .i64 (.ofNat 1))), [], none⟩⟩,
   ⟨false, ⟨(some 89), .mov (.t 117), [0], none⟩⟩] [] 166153568797756684094271276886000640)))))))
 (.region [⟨true, ⟨(some 118), .faddr 1 (.t 3), [], none⟩⟩,
   ⟨true, ⟨(some 119), .load none (.t 118), [0], none⟩⟩,
   ⟨true, ⟨(some 120), .mov (.t 7), [], none⟩⟩,
   ⟨true, ⟨(some 121), .call .borrow (.f 60) [(.t 120)], [2], none⟩⟩,
   ⟨true, ⟨(some 122), .bin .add (.c (.str [102, 111, 114, 107])) (.t 121), [3], none⟩⟩,
   ⟨true, ⟨(some 123), .load (some 4) (.t 9), [], none⟩⟩,
   ⟨true, ⟨(some 124), .build [(.str []), .nilsl, (.int .i64 (.ofNat 0)), .nilsl, .nilsl] [(0, 1, (.t 122)), (1, 4, (.t 123))], [4, 5], none⟩⟩,
   ⟨true, ⟨(some 125), .bslice false .dyn 5 1 [(.str []), .nilsl, (.int .i64 (.ofNat 0)), .nilsl, .nilsl] [(0, 5, (.t 124))], [6], none⟩⟩,
   ⟨true, ⟨(some 126), .append .dyn 5 96 (.t 119) (.t 125), [1, 7, 3], none⟩⟩,
   ⟨true, ⟨(some 127), .faddr 1 (.t 3), [0, 1, 2, 3, 4, 5, 6, 7, 8], none⟩⟩,
   ⟨false, ⟨none, .store 1 (.t 127) (.t 126), [9, 8, 8, 0, 1, 2, 3, 4, 5, 6, 7, 8], none⟩⟩] [(1, 7)] 339950059922611204514791345804147688064)))))))
 (.region [⟨true, ⟨(some 128), .bin .add (.t 63) (.c (.int .i64 (.ofNat 1))), [], none⟩⟩,
   ⟨false, ⟨(some 63), .mov (.t 128), [0], none⟩⟩] [] 340282366920938463463374607431768211456)))))))
 (.seq (.region [⟨true, ⟨(some 129), .load (some 5) (.t 3), [], none⟩⟩,
   ⟨false, ⟨none, .store 5 (.t 2) (.t 129), [0, 0], none⟩⟩] [] 680564733841876926940584272918818586633)
 .ret)))))⟩

-- overseer/catalogue.zone
def f35 : FFn := ⟨34, [.cell 2 (some 5)],
 (.seq (.region [⟨true, ⟨(some 2), .alloc .dyn (.agg [.nilsl, .nilsl, .nilsl, .nilsl, .nilsl]), [], none⟩⟩] [] 0)
 (.seq (.region [⟨true, ⟨(some 6), .mov (.t 0), [], none⟩⟩,
   ⟨true, ⟨(some 7), .bslice false .dyn 1 2 [(.str []), (.str [])] [(0, 1, (.c (.str [101, 110, 116, 101, 114]))), (1, 1, (.c (.str [108, 101, 97, 118, 101])))], [], none⟩⟩,
   ⟨true, ⟨(some 8), .call .heap (.f 58) [(.t 6), (.t 7)], [0, 1], none⟩⟩,
   ⟨true, ⟨(some 9), .build [.nilsl, .nilsl, .nilsl, .nilsl, .nilsl] [(0, 1, (.t 8))], [2], none⟩⟩,
   ⟨true, ⟨(some 3), .alloc .dyn (.agg [.nilsl, .nilsl, .nilsl, .nilsl, .nilsl]), [], none⟩⟩,
   ⟨false, ⟨none, .store 5 (.t 3) (.t 9), [4, 3, 2, 0, 1, 2, 3, 4], none⟩⟩] [] 960)
 (.seq (.region [⟨true, ⟨(some 10), .build [(.str []), .nilsl, (.int .i64 (.ofNat 0))] [(0, 1, (.c (.str [122, 111, 110, 101]))), (2, 1, (.c (.int .i64 (.ofNat 1))))], [], none⟩⟩,
   ⟨true, ⟨(some 4), .alloc .dyn (.agg [(.str []), .nilsl, (.int .i64 (.ofNat 0))]), [], none⟩⟩,
   ⟨false, ⟨none, .store 3 (.t 4) (.t 10), [1, 0, 0, 1], none⟩⟩] [] 1024)
 (.seq (.seq (.region [⟨true, ⟨(some 11), .mov (.t 0), [], none⟩⟩,
   ⟨true, ⟨(some 12), .mov (.c (.int .i64 (.ofNat 0))), [], none⟩⟩] [] 1)
 (.block 0 (.loop (.seq (.region [⟨true, ⟨(some 13), .bin .lss (.t 12) (.t 11), [], none⟩⟩] [] 0)
 (.seq (.cond (.t 13)
  .skip
  (.exit 0))
 (.seq (.block 1 (.seq (.region [⟨true, ⟨(some 14), .mov (.t 12), [], none⟩⟩,
   ⟨true, ⟨(some 5), .mov (.t 14), [0, 0], none⟩⟩] [] 24576)
 (.seq (.region [⟨true, ⟨(some 15), .faddr 1 (.t 3), [], none⟩⟩,
   ⟨true, ⟨(some 16), .load none (.t 15), [0], none⟩⟩,
   ⟨true, ⟨(some 17), .mov (.t 5), [], none⟩⟩,
   ⟨true, ⟨(some 18), .call .pure (.f 59) [(.c (.str [118, 101, 104, 105, 99, 108, 101])), (.t 17)], [2], none⟩⟩,
   ⟨true, ⟨(some 19), .bslice false .dyn 5 1 [(.str []), .nilsl, (.int .i64 (.ofNat 0)), .nilsl, .nilsl] [(0, 5, (.t 18))], [3], none⟩⟩,
   ⟨true, ⟨(some 20), .append .dyn 5 96 (.t 16) (.t 19), [1, 4, 3], none⟩⟩,
   ⟨true, ⟨(some 21), .faddr 1 (.t 3), [0, 1, 2, 3, 4, 5], none⟩⟩,
   ⟨false, ⟨none, .store 1 (.t 21) (.t 20), [6, 5, 5, 0, 1, 2, 3, 4, 5], none⟩⟩] [(1, 4)] 4161536)
 (.region [⟨true, ⟨(some 22), .faddr 1 (.t 4), [], none⟩⟩,
   ⟨true, ⟨(some 23), .load none (.t 22), [0], none⟩⟩,
   ⟨true, ⟨(some 24), .mov (.t 5), [], none⟩⟩,
   ⟨true, ⟨(some 25), .build [(.int .i64 (.ofNat 0)), (.int .i64 (.ofNat 0))] [(0, 1, (.t 24)), (1, 1, (.c (.int .i64 (.ofNat 1))))], [2], none⟩⟩,
   ⟨true, ⟨(some 26), .bslice false .dyn 2 1 [(.int .i64 (.ofNat 0)), (.int .i64 (.ofNat 0))] [(0, 2, (.t 25))], [3], none⟩⟩,
   ⟨true, ⟨(some 27), .append .dyn 2 16 (.t 23) (.t 26), [1, 4], none⟩⟩,
   ⟨true, ⟨(some 28), .faddr 1 (.t 4), [0, 1, 2, 3, 4, 5], none⟩⟩,
   ⟨false, ⟨none, .store 1 (.t 28) (.t 27), [6, 5, 5, 0, 1, 2, 3, 4, 5], none⟩⟩] [] 532676640))))
 (.region [⟨true, ⟨(some 29), .bin .add (.t 12) (.c (.int .i64 (.ofNat 1))), [], none⟩⟩,
   ⟨false, ⟨(some 12), .mov (.t 29), [0], none⟩⟩] [] 536870912)))))))
 (.seq (.region [⟨true, ⟨(some 30), .load (some 3) (.t 4), [], none⟩⟩,
   ⟨true, ⟨(some 31), .bslice false .dyn 3 1 [(.str []), .nilsl, (.int .i64 (.ofNat 0))] [(0, 3, (.t 30))], [0], none⟩⟩,
   ⟨true, ⟨(some 32), .faddr 4 (.t 3), [0, 1], none⟩⟩,
   ⟨false, ⟨none, .store 1 (.t 32) (.t 31), [2, 1, 0, 1], none⟩⟩] [] 7516198928)
 (.seq (.region [⟨true, ⟨(some 33), .load (some 5) (.t 3), [], none⟩⟩,
   ⟨false, ⟨none, .store 5 (.t 2) (.t 33), [0, 0], none⟩⟩] [] 8589934600)
 .ret))))))⟩

-- overseer/catalogue.alternate
def f36 : FFn := ⟨41, [.cell 2 (some 5)],
 (.seq (.region [⟨true, ⟨(some 2), .alloc .dyn (.agg [.nilsl, .nilsl, .nilsl, .nilsl, .nilsl]), [], none⟩⟩] [] 0)
 (.seq (.region [⟨true, ⟨(some 6), .mov (.t 0), [], none⟩⟩,
   ⟨true, ⟨(some 7), .call .heap (.f 32) [(.t 6)], [0], none⟩⟩,
   ⟨true, ⟨(some 3), .alloc .dyn (.agg [.nilsl, .nilsl, .nilsl, .nilsl, .nilsl]), [], none⟩⟩,
   ⟨false, ⟨none, .store 5 (.t 3) (.t 7), [2, 1, 1, 0, 1, 2], none⟩⟩] [] 192)
 (.seq (.region [⟨true, ⟨(some 8), .mov (.t 0), [], none⟩⟩,
   ⟨true, ⟨(some 9), .bslice false .dyn 1 1 [(.int .i64 (.ofNat 0))] [(0, 1, (.c (.int .i64 (.ofNat 0))))], [], none⟩⟩,
   ⟨true, ⟨(some 10), .build [.nilsl, (.int .i64 (.ofNat 0)), .nilsl, .nilsl] [(1, 1, (.t 8)), (2, 1, (.t 9))], [0, 1], none⟩⟩,
   ⟨true, ⟨(some 4), .alloc .dyn (.agg [.nilsl, (.int .i64 (.ofNat 0)), .nilsl, .nilsl]), [], none⟩⟩,
   ⟨false, ⟨none, .store 4 (.t 4) (.t 10), [3, 2, 0, 1, 2, 3], none⟩⟩] [] 1792)
 (.seq (.seq (.region [⟨true, ⟨(some 11), .mov (.t 0), [], none⟩⟩,
   ⟨true, ⟨(some 12), .mov (.c (.int .i64 (.ofNat 0))), [], none⟩⟩] [] 0)
 (.block 0 (.loop (.seq (.region [⟨true, ⟨(some 13), .bin .lss (.t 12) (.t 11), [], none⟩⟩] [] 0)
 (.seq (.cond (.t 13)
  .skip
  (.exit 0))
 (.seq (.block 1 (.seq (.region [⟨true, ⟨(some 14), .mov (.t 12), [], none⟩⟩,
   ⟨true, ⟨(some 5), .mov (.t 14), [0, 0], none⟩⟩] [] 24576)
 (.seq (.region [⟨true, ⟨(some 15), .faddr 0 (.t 4), [], none⟩⟩,
   ⟨true, ⟨(some 16), .load none (.t 15), [0], none⟩⟩,
   ⟨true, ⟨(some 17), .mov (.t 5), [], none⟩⟩,
   ⟨true, ⟨(some 18), .bin .mul (.c (.int .i64 (.ofNat 2))) (.t 17), [2], none⟩⟩,
   ⟨true, ⟨(some 19), .bslice false .dyn 1 1 [(.int .i64 (.ofNat 0))] [(0, 1, (.t 18))], [3], none⟩⟩,
   ⟨true, ⟨(some 20), .append .dyn 1 8 (.t 16) (.t 19), [1, 4], none⟩⟩,
   ⟨true, ⟨(some 21), .faddr 0 (.t 4), [0, 1, 2, 3, 4, 5], none⟩⟩,
   ⟨false, ⟨none, .store 1 (.t 21) (.t 20), [6, 5, 5, 0, 1, 2, 3, 4, 5], none⟩⟩] [] 4161536)
 (.region [⟨true, ⟨(some 22), .faddr 3 (.t 4), [], none⟩⟩,
   ⟨true, ⟨(some 23), .load none (.t 22), [0], none⟩⟩,
   ⟨true, ⟨(some 24), .mov (.t 5), [], none⟩⟩,
   ⟨true, ⟨(some 25), .mov (.t 5), [], none⟩⟩,
   ⟨true, ⟨(some 26), .bin .mul (.c (.int .i64 (.ofNat 2))) (.t 25), [3], none⟩⟩,
   ⟨true, ⟨(some 27), .mov (.t 5), [], none⟩⟩,
   ⟨true, ⟨(some 28), .bin .add (.t 27) (.c (.int .i64 (.ofNat 1))), [5], none⟩⟩,
   ⟨true, ⟨(some 29), .mov (.t 0), [], none⟩⟩,
   ⟨true, ⟨(some 30), .bin .rem (.t 28) (.t 29), [6, 7], none⟩⟩,
   ⟨true, ⟨(some 31), .build [(.int .i64 (.ofNat 0)), (.int .i64 (.ofNat 0)), (.int .i64 (.ofNat 0))] [(0, 1, (.t 24)), (1, 1, (.t 26)), (2, 1, (.t 30))], [2, 4, 8], none⟩⟩,
   ⟨true, ⟨(some 32), .bslice false .dyn 3 1 [(.int .i64 (.ofNat 0)), (.int .i64 (.ofNat 0)), (.int .i64 (.ofNat 0))] [(0, 3, (.t 31))], [9], none⟩⟩,
   ⟨true, ⟨(some 33), .append .dyn 3 24 (.t 23) (.t 32), [1, 10], none⟩⟩,
   ⟨true, ⟨(some 34), .faddr 3 (.t 4), [0, 1, 2, 3, 4, 5, 6, 7, 8, 9, 10, 11], none⟩⟩,
   ⟨false, ⟨none, .store 1 (.t 34) (.t 33), [12, 11, 11, 0, 1, 2, 3, 4, 5, 6, 7, 8, 9, 10, 11], none⟩⟩] [(1, 10)] 34355544096))))
 (.region [⟨true, ⟨(some 35), .bin .add (.t 12) (.c (.int .i64 (.ofNat 1))), [], none⟩⟩,
   ⟨false, ⟨(some 12), .mov (.t 35), [0], none⟩⟩] [] 34359738368)))))))
 (.seq (.region [⟨true, ⟨(some 36), .load (some 4) (.t 4), [], none⟩⟩,
   ⟨true, ⟨(some 37), .build [(.str []), .nilsl, (.int .i64 (.ofNat 0)), .nilsl, .nilsl] [(0, 1, (.c (.str [116, 117, 114, 110, 115]))), (1, 4, (.t 36))], [0], none⟩⟩,
   ⟨true, ⟨(some 38), .bslice false .dyn 5 1 [(.str []), .nilsl, (.int .i64 (.ofNat 0)), .nilsl, .nilsl] [(0, 5, (.t 37))], [1], none⟩⟩,
   ⟨true, ⟨(some 39), .faddr 2 (.t 3), [0, 1, 2], none⟩⟩,
   ⟨false, ⟨none, .store 1 (.t 39) (.t 38), [3, 2, 0, 1, 2], none⟩⟩] [] 1030792157201)
 (.seq (.region [⟨true, ⟨(some 40), .load (some 5) (.t 3), [], none⟩⟩,
   ⟨false, ⟨none, .store 5 (.t 2) (.t 40), [0, 0], none⟩⟩] [] 1099511627784)
 .ret))))))⟩

-- overseer/cell.Equal$1
def f37 : FFn := ⟨17, [.tmp 4],
 (.seq (.region [⟨true, ⟨(some 2), .box .dyn (.t 0), [], none⟩⟩,
   ⟨true, ⟨(some 3), .box .dyn (.t 1), [], none⟩⟩,
   ⟨true, ⟨(some 4), .mov (.c (.bool false)), [], none⟩⟩] [] 19)
 (.seq (.region [⟨true, ⟨(some 5), .faddr 0 (.t 2), [], none⟩⟩,
   ⟨true, ⟨(some 6), .load none (.t 5), [0], none⟩⟩,
   ⟨true, ⟨(some 7), .faddr 0 (.t 3), [], none⟩⟩,
   ⟨true, ⟨(some 8), .load none (.t 7), [2], none⟩⟩,
   ⟨true, ⟨(some 9), .bin .eql (.t 6) (.t 8), [1, 3], none⟩⟩,
   ⟨true, ⟨(some 10), .mov (.t 9), [4], none⟩⟩,
   ⟨true, ⟨(some 11), .faddr 1 (.t 2), [5], (some (10, true))⟩⟩,
   ⟨true, ⟨(some 12), .load (some 4) (.t 11), [6, 5], (some (10, true))⟩⟩,
   ⟨true, ⟨(some 13), .faddr 1 (.t 3), [5], (some (10, true))⟩⟩,
   ⟨true, ⟨(some 14), .load (some 4) (.t 13), [8, 5], (some (10, true))⟩⟩,
   ⟨true, ⟨(some 15), .call .heap (.f 38) [(.t 12), (.t 14)], [7, 9, 5, 5], (some (10, true))⟩⟩,
   ⟨true, ⟨(some 16), .pick (.t 10) (.t 15) (.c (.bool false)), [5, 10], none⟩⟩,
   ⟨true, ⟨(some 4), .mov (.t 16), [11, 10, 0, 1, 2, 3, 4, 5, 6, 7, 8, 9, 10, 11], none⟩⟩] [] 131052)
 .ret))⟩

-- overseer/automaton.Equal
def f38 : FFn := ⟨31, [.tmp 4],
 (.seq (.region [⟨true, ⟨(some 2), .box .dyn (.t 0), [], none⟩⟩,
   ⟨true, ⟨(some 3), .box .dyn (.t 1), [], none⟩⟩,
   ⟨true, ⟨(some 4), .mov (.c (.bool false)), [], none⟩⟩] [] 19)
 (.seq (.region [⟨true, ⟨(some 5), .faddr 1 (.t 2), [], none⟩⟩,
   ⟨true, ⟨(some 6), .load none (.t 5), [0], none⟩⟩,
   ⟨true, ⟨(some 7), .faddr 1 (.t 3), [], none⟩⟩,
   ⟨true, ⟨(some 8), .load none (.t 7), [2], none⟩⟩,
   ⟨true, ⟨(some 9), .bin .eql (.t 6) (.t 8), [1, 3], none⟩⟩,
   ⟨true, ⟨(some 10), .mov (.t 9), [4], none⟩⟩,
   ⟨true, ⟨(some 11), .faddr 0 (.t 2), [5], (some (10, true))⟩⟩,
   ⟨true, ⟨(some 12), .load none (.t 11), [6, 5], (some (10, true))⟩⟩,
   ⟨true, ⟨(some 13), .faddr 0 (.t 3), [5], (some (10, true))⟩⟩,
   ⟨true, ⟨(some 14), .load none (.t 13), [8, 5], (some (10, true))⟩⟩,
   ⟨true, ⟨(some 15), .call .heap (.f 51) [(.t 12), (.t 14)], [7, 9, 5, 5], (some (10, true))⟩⟩,
   ⟨true, ⟨(some 16), .pick (.t 10) (.t 15) (.c (.bool false)), [5, 10], none⟩⟩,
   ⟨true, ⟨(some 17), .mov (.t 16), [11, 10], none⟩⟩,
   ⟨true, ⟨(some 18), .faddr 2 (.t 2), [12], (some (17, true))⟩⟩,
   ⟨true, ⟨(some 19), .load none (.t 18), [13, 12], (some (17, true))⟩⟩,
   ⟨true, ⟨(some 20), .faddr 2 (.t 3), [12], (some (17, true))⟩⟩,
   ⟨true, ⟨(some 21), .load none (.t 20), [15, 12], (some (17, true))⟩⟩,
   ⟨true, ⟨(some 22), .call .heap (.f 51) [(.t 19), (.t 21)], [14, 16, 12, 12], (some (17, true))⟩⟩,
   ⟨true, ⟨(some 23), .pick (.t 17) (.t 22) (.c (.bool false)), [12, 17], none⟩⟩,
   ⟨true, ⟨(some 24), .mov (.t 23), [18, 17], none⟩⟩,
   ⟨true, ⟨(some 25), .faddr 3 (.t 2), [19], (some (24, true))⟩⟩,
   ⟨true, ⟨(some 26), .load none (.t 25), [20, 19], (some (24, true))⟩⟩,
   ⟨true, ⟨(some 27), .faddr 3 (.t 3), [19], (some (24, true))⟩⟩,
   ⟨true, ⟨(some 28), .load none (.t 27), [22, 19], (some (24, true))⟩⟩,
   ⟨true, ⟨(some 29), .call .heap (.f 62) [(.t 26), (.t 28)], [21, 23, 19, 19], (some (24, true))⟩⟩,
   ⟨true, ⟨(some 30), .pick (.t 24) (.t 29) (.c (.bool false)), [19, 24], none⟩⟩,
   ⟨true, ⟨(some 4), .mov (.t 30), [25, 24, 0, 1, 2, 3, 4, 5, 6, 7, 8, 9, 10, 11, 12, 13, 14, 15, 16, 17, 18, 19, 20, 21, 22, 23, 24, 25], none⟩⟩] [] 2147483628)
 .ret))⟩

-- slices.Equal[[]overseer/api.Event,overseer/api.Event]
def f39 : FFn := ⟨26, [.tmp 4],
 (.seq (.region [⟨true, ⟨(some 4), .mov (.c (.bool false)), [], none⟩⟩] [] 16)
 (.seq (.seq (.region [⟨true, ⟨(some 6), .mov (.t 0), [], none⟩⟩,
   ⟨true, ⟨(some 7), .len 1 (.t 6), [0], none⟩⟩,
   ⟨true, ⟨(some 8), .mov (.t 1), [], none⟩⟩,
   ⟨true, ⟨(some 9), .len 1 (.t 8), [2], none⟩⟩,
   ⟨true, ⟨(some 10), .bin .neq (.t 7) (.t 9), [1, 3], none⟩⟩] [] 960)
 (.cond (.t 10)
  (.seq (.region [⟨true, ⟨(some 4), .mov (.c (.bool false)), [], none⟩⟩] [] 1027)
  .ret)
  .skip))
 (.seq (.seq (.region [⟨true, ⟨(some 11), .mov (.t 0), [], none⟩⟩,
   ⟨true, ⟨(some 12), .len 1 (.t 11), [0], none⟩⟩,
   ⟨true, ⟨(some 13), .mov (.c (.int .i64 (.ofNat 0))), [], none⟩⟩] [] 3088)
 (.block 0 (.loop (.seq (.region [⟨true, ⟨(some 14), .bin .lss (.t 13) (.t 12), [], none⟩⟩] [] 0)
 (.seq (.cond (.t 14)
  .skip
  (.exit 0))
 (.seq (.block 1 (.seq (.region [⟨true, ⟨(some 15), .mov (.t 13), [], none⟩⟩,
   ⟨true, ⟨(some 5), .mov (.t 15), [0, 0], none⟩⟩] [] 49152)
 (.seq (.region [⟨true, ⟨(some 16), .mov (.t 0), [], none⟩⟩,
   ⟨true, ⟨(some 17), .mov (.t 5), [], none⟩⟩,
   ⟨true, ⟨(some 18), .iaddr none 5 (.t 16) (.t 17), [0, 1], none⟩⟩,
   ⟨true, ⟨(some 19), .load (some 5) (.t 18), [2], none⟩⟩,
   ⟨true, ⟨(some 20), .mov (.t 1), [], none⟩⟩,
   ⟨true, ⟨(some 21), .mov (.t 5), [], none⟩⟩,
   ⟨true, ⟨(some 22), .iaddr none 5 (.t 20) (.t 21), [4, 5], none⟩⟩,
   ⟨true, ⟨(some 23), .load (some 5) (.t 22), [6], none⟩⟩,
   ⟨true, ⟨(some 24), .eq (.flat true [.s, .b, .b, .b, .i]) true (.t 19) (.t 23), [3, 7], none⟩⟩] [] 16711712)
 (.cond (.t 24)
  (.seq (.region [⟨true, ⟨(some 4), .mov (.c (.bool false)), [], none⟩⟩] [] 16789507)
  .ret)
  .skip))))
 (.region [⟨true, ⟨(some 25), .bin .add (.t 13) (.c (.int .i64 (.ofNat 1))), [], none⟩⟩,
   ⟨false, ⟨(some 13), .mov (.t 25), [0], none⟩⟩] [] 50331664)))))))
 (.seq (.region [⟨true, ⟨(some 4), .mov (.c (.bool true)), [], none⟩⟩] [] 12291)
 .ret))))⟩

-- slices.EqualFunc[[]overseer/api.Item,[]overseer/api.Item,overseer/api.Item,overseer/api.Item]
def f40 : FFn := ⟨32, [.tmp 6],
 (.seq (.region [⟨true, ⟨(some 6), .mov (.c (.bool false)), [], none⟩⟩] [] 64)
 (.seq (.seq (.region [⟨true, ⟨(some 10), .mov (.t 0), [], none⟩⟩,
   ⟨true, ⟨(some 11), .len 1 (.t 10), [0], none⟩⟩,
   ⟨true, ⟨(some 12), .mov (.t 1), [], none⟩⟩,
   ⟨true, ⟨(some 13), .len 1 (.t 12), [2], none⟩⟩,
   ⟨true, ⟨(some 14), .bin .neq (.t 11) (.t 13), [1, 3], none⟩⟩] [] 15360)
 (.cond (.t 14)
  (.seq (.region [⟨true, ⟨(some 6), .mov (.c (.bool false)), [], none⟩⟩] [] 16391)
  .ret)
  .skip))
 (.seq (.seq (.region [⟨true, ⟨(some 15), .mov (.t 0), [], none⟩⟩,
   ⟨true, ⟨(some 16), .len 1 (.t 15), [0], none⟩⟩,
   ⟨true, ⟨(some 17), .mov (.c (.int .i64 (.ofNat 0))), [], none⟩⟩] [] 16449)
 (.block 0 (.loop (.seq (.region [⟨true, ⟨(some 18), .bin .lss (.t 17) (.t 16), [], none⟩⟩] [] 0)
 (.seq (.cond (.t 18)
  .skip
  (.exit 0))
 (.seq (.block 1 (.seq (.region [⟨true, ⟨(some 19), .mov (.t 17), [], none⟩⟩,
   ⟨true, ⟨(some 20), .iaddr none 5 (.t 15) (.t 17), [], none⟩⟩,
   ⟨true, ⟨(some 21), .load (some 5) (.t 20), [1], none⟩⟩,
   ⟨true, ⟨(some 8), .alloc .dyn (.agg [(.str []), .nilsl, (.int .i64 (.ofNat 0)), .nilsl, .nilsl]), [], none⟩⟩,
   ⟨true, ⟨(some 7), .mov (.t 19), [0, 0, 1, 2, 3], none⟩⟩,
   ⟨false, ⟨none, .store 5 (.t 8) (.t 21), [3, 2, 4, 0, 1, 2, 3, 4], none⟩⟩] [] 3932160)
 (.seq (.region [⟨true, ⟨(some 22), .mov (.t 1), [], none⟩⟩,
   ⟨true, ⟨(some 23), .mov (.t 7), [], none⟩⟩,
   ⟨true, ⟨(some 24), .iaddr none 5 (.t 22) (.t 23), [0, 1], none⟩⟩,
   ⟨true, ⟨(some 25), .load (some 5) (.t 24), [2], none⟩⟩,
   ⟨true, ⟨(some 9), .alloc .dyn (.agg [(.str []), .nilsl, (.int .i64 (.ofNat 0)), .nilsl, .nilsl]), [], none⟩⟩,
   ⟨false, ⟨none, .store 5 (.t 9) (.t 25), [4, 3, 0, 1, 2, 3, 4], none⟩⟩] [] 62914688)
 (.seq (.region [⟨true, ⟨(some 26), .mov (.t 2), [], none⟩⟩,
   ⟨true, ⟨(some 27), .load (some 5) (.t 8), [], none⟩⟩,
   ⟨true, ⟨(some 28), .load (some 5) (.t 9), [], none⟩⟩,
   ⟨true, ⟨(some 29), .call .heap (.t 26) [(.t 27), (.t 28)], [0, 1, 2], none⟩⟩,
   ⟨true, ⟨(some 30), .un .not (.t 29), [3], none⟩⟩] [] 1006633728)
 (.cond (.t 30)
  (.seq (.region [⟨true, ⟨(some 6), .mov (.c (.bool false)), [], none⟩⟩] [] 1073971206)
  .ret)
  .skip)))))
 (.region [⟨true, ⟨(some 31), .bin .add (.t 17) (.c (.int .i64 (.ofNat 1))), [], none⟩⟩,
   ⟨false, ⟨(some 17), .mov (.t 31), [0], none⟩⟩] [] 3221225536)))))))
 (.seq (.region [⟨true, ⟨(some 6), .mov (.c (.bool true)), [], none⟩⟩] [] 229382)
 .ret))))⟩

-- slices.EqualFunc[[]overseer/api.Exclusion,[]overseer/api.Exclusion,overseer/api.Exclusion,overseer/api.Exclusion]
def f41 : FFn := ⟨32, [.tmp 6],
 (.seq (.region [⟨true, ⟨(some 6), .mov (.c (.bool false)), [], none⟩⟩] [] 64)
 (.seq (.seq (.region [⟨true, ⟨(some 10), .mov (.t 0), [], none⟩⟩,
   ⟨true, ⟨(some 11), .len 1 (.t 10), [0], none⟩⟩,
   ⟨true, ⟨(some 12), .mov (.t 1), [], none⟩⟩,
   ⟨true, ⟨(some 13), .len 1 (.t 12), [2], none⟩⟩,
   ⟨true, ⟨(some 14), .bin .neq (.t 11) (.t 13), [1, 3], none⟩⟩] [] 15360)
 (.cond (.t 14)
  (.seq (.region [⟨true, ⟨(some 6), .mov (.c (.bool false)), [], none⟩⟩] [] 16391)
  .ret)
  .skip))
 (.seq (.seq (.region [⟨true, ⟨(some 15), .mov (.t 0), [], none⟩⟩,
   ⟨true, ⟨(some 16), .len 1 (.t 15), [0], none⟩⟩,
   ⟨true, ⟨(some 17), .mov (.c (.int .i64 (.ofNat 0))), [], none⟩⟩] [] 16449)
 (.block 0 (.loop (.seq (.region [⟨true, ⟨(some 18), .bin .lss (.t 17) (.t 16), [], none⟩⟩] [] 0)
 (.seq (.cond (.t 18)
  .skip
  (.exit 0))
 (.seq (.block 1 (.seq (.region [⟨true, ⟨(some 19), .mov (.t 17), [], none⟩⟩,
   ⟨true, ⟨(some 20), .iaddr none 2 (.t 15) (.t 17), [], none⟩⟩,
   ⟨true, ⟨(some 21), .load (some 2) (.t 20), [1], none⟩⟩,
   ⟨true, ⟨(some 8), .alloc .dyn (.agg [(.str []), .nilsl]), [], none⟩⟩,
   ⟨true, ⟨(some 7), .mov (.t 19), [0, 0, 1, 2, 3], none⟩⟩,
   ⟨false, ⟨none, .store 2 (.t 8) (.t 21), [3, 2, 4, 0, 1, 2, 3, 4], none⟩⟩] [] 3932160)
 (.seq (.region [⟨true, ⟨(some 22), .mov (.t 1), [], none⟩⟩,
   ⟨true, ⟨(some 23), .mov (.t 7), [], none⟩⟩,
   ⟨true, ⟨(some 24), .iaddr none 2 (.t 22) (.t 23), [0, 1], none⟩⟩,
   ⟨true, ⟨(some 25), .load (some 2) (.t 24), [2], none⟩⟩,
   ⟨true, ⟨(some 9), .alloc .dyn (.agg [(.str []), .nilsl]), [], none⟩⟩,
   ⟨false, ⟨none, .store 2 (.t 9) (.t 25), [4, 3, 0, 1, 2, 3, 4], none⟩⟩] [] 62914688)
 (.seq (.region [⟨true, ⟨(some 26), .mov (.t 2), [], none⟩⟩,
   ⟨true, ⟨(some 27), .load (some 2) (.t 8), [], none⟩⟩,
   ⟨true, ⟨(some 28), .load (some 2) (.t 9), [], none⟩⟩,
   ⟨true, ⟨(some 29), .call .heap (.t 26) [(.t 27), (.t 28)], [0, 1, 2], none⟩⟩,
   ⟨true, ⟨(some 30), .un .not (.t 29), [3], none⟩⟩] [] 1006633728)
 (.cond (.t 30)
  (.seq (.region [⟨true, ⟨(some 6), .mov (.c (.bool false)), [], none⟩⟩] [] 1073971206)
  .ret)
  .skip)))))
 (.region [⟨true, ⟨(some 31), .bin .add (.t 17) (.c (.int .i64 (.ofNat 1))), [], none⟩⟩,
   ⟨false, ⟨(some 17), .mov (.t 31), [0], none⟩⟩] [] 3221225536)))))))
 (.seq (.region [⟨true, ⟨(some 6), .mov (.c (.bool true)), [], none⟩⟩] [] 229382)
 .ret))))⟩

-- overseer/cell.Equal$2
def f42 : FFn := ⟨17, [.tmp 4],
 (.seq (.region [⟨true, ⟨(some 2), .box .dyn (.t 0), [], none⟩⟩,
   ⟨true, ⟨(some 3), .box .dyn (.t 1), [], none⟩⟩,
   ⟨true, ⟨(some 4), .mov (.c (.bool false)), [], none⟩⟩] [] 19)
 (.seq (.region [⟨true, ⟨(some 5), .faddr 0 (.t 2), [], none⟩⟩,
   ⟨true, ⟨(some 6), .load none (.t 5), [0], none⟩⟩,
   ⟨true, ⟨(some 7), .faddr 0 (.t 3), [], none⟩⟩,
   ⟨true, ⟨(some 8), .load none (.t 7), [2], none⟩⟩,
   ⟨true, ⟨(some 9), .bin .eql (.t 6) (.t 8), [1, 3], none⟩⟩,
   ⟨true, ⟨(some 10), .mov (.t 9), [4], none⟩⟩,
   ⟨true, ⟨(some 11), .faddr 1 (.t 2), [5], (some (10, true))⟩⟩,
   ⟨true, ⟨(some 12), .load none (.t 11), [6, 5], (some (10, true))⟩⟩,
   ⟨true, ⟨(some 13), .faddr 1 (.t 3), [5], (some (10, true))⟩⟩,
   ⟨true, ⟨(some 14), .load none (.t 13), [8, 5], (some (10, true))⟩⟩,
   ⟨true, ⟨(some 15), .call .heap (.f 43) [(.t 12), (.t 14)], [7, 9, 5, 5], (some (10, true))⟩⟩,
   ⟨true, ⟨(some 16), .pick (.t 10) (.t 15) (.c (.bool false)), [5, 10], none⟩⟩,
   ⟨true, ⟨(some 4), .mov (.t 16), [11, 10, 0, 1, 2, 3, 4, 5, 6, 7, 8, 9, 10, 11], none⟩⟩] [] 131052)
 .ret))⟩

-- slices.Equal[[]overseer/api.Local,overseer/api.Local]
def f43 : FFn := ⟨26, [.tmp 4],
 (.seq (.region [⟨true, ⟨(some 4), .mov (.c (.bool false)), [], none⟩⟩] [] 16)
 (.seq (.seq (.region [⟨true, ⟨(some 6), .mov (.t 0), [], none⟩⟩,
   ⟨true, ⟨(some 7), .len 1 (.t 6), [0], none⟩⟩,
   ⟨true, ⟨(some 8), .mov (.t 1), [], none⟩⟩,
   ⟨true, ⟨(some 9), .len 1 (.t 8), [2], none⟩⟩,
   ⟨true, ⟨(some 10), .bin .neq (.t 7) (.t 9), [1, 3], none⟩⟩] [] 960)
 (.cond (.t 10)
  (.seq (.region [⟨true, ⟨(some 4), .mov (.c (.bool false)), [], none⟩⟩] [] 1027)
  .ret)
  .skip))
 (.seq (.seq (.region [⟨true, ⟨(some 11), .mov (.t 0), [], none⟩⟩,
   ⟨true, ⟨(some 12), .len 1 (.t 11), [0], none⟩⟩,
   ⟨true, ⟨(some 13), .mov (.c (.int .i64 (.ofNat 0))), [], none⟩⟩] [] 3088)
 (.block 0 (.loop (.seq (.region [⟨true, ⟨(some 14), .bin .lss (.t 13) (.t 12), [], none⟩⟩] [] 0)
 (.seq (.cond (.t 14)
  .skip
  (.exit 0))
 (.seq (.block 1 (.seq (.region [⟨true, ⟨(some 15), .mov (.t 13), [], none⟩⟩,
   ⟨true, ⟨(some 5), .mov (.t 15), [0, 0], none⟩⟩] [] 49152)
 (.seq (.region [⟨true, ⟨(some 16), .mov (.t 0), [], none⟩⟩,
   ⟨true, ⟨(some 17), .mov (.t 5), [], none⟩⟩,
   ⟨true, ⟨(some 18), .iaddr none 2 (.t 16) (.t 17), [0, 1], none⟩⟩,
   ⟨true, ⟨(some 19), .load (some 2) (.t 18), [2], none⟩⟩,
   ⟨true, ⟨(some 20), .mov (.t 1), [], none⟩⟩,
   ⟨true, ⟨(some 21), .mov (.t 5), [], none⟩⟩,
   ⟨true, ⟨(some 22), .iaddr none 2 (.t 20) (.t 21), [4, 5], none⟩⟩,
   ⟨true, ⟨(some 23), .load (some 2) (.t 22), [6], none⟩⟩,
   ⟨true, ⟨(some 24), .eq (.flat true [.i, .i]) true (.t 19) (.t 23), [3, 7], none⟩⟩] [] 16711712)
 (.cond (.t 24)
  (.seq (.region [⟨true, ⟨(some 4), .mov (.c (.bool false)), [], none⟩⟩] [] 16789507)
  .ret)
  .skip))))
 (.region [⟨true, ⟨(some 25), .bin .add (.t 13) (.c (.int .i64 (.ofNat 1))), [], none⟩⟩,
   ⟨false, ⟨(some 13), .mov (.t 25), [0], none⟩⟩] [] 50331664)))))))
 (.seq (.region [⟨true, ⟨(some 4), .mov (.c (.bool true)), [], none⟩⟩] [] 12291)
 .ret))))⟩

-- slices.EqualFunc[[]overseer/api.Constraint,[]overseer/api.Constraint,overseer/api.Constraint,overseer/api.Constraint]
def f44 : FFn := ⟨32, [.tmp 6],
 (.seq (.region [⟨true, ⟨(some 6), .mov (.c (.bool false)), [], none⟩⟩] [] 64)
 (.seq (.seq (.region [⟨true, ⟨(some 10), .mov (.t 0), [], none⟩⟩,
   ⟨true, ⟨(some 11), .len 1 (.t 10), [0], none⟩⟩,
   ⟨true, ⟨(some 12), .mov (.t 1), [], none⟩⟩,
   ⟨true, ⟨(some 13), .len 1 (.t 12), [2], none⟩⟩,
   ⟨true, ⟨(some 14), .bin .neq (.t 11) (.t 13), [1, 3], none⟩⟩] [] 15360)
 (.cond (.t 14)
  (.seq (.region [⟨true, ⟨(some 6), .mov (.c (.bool false)), [], none⟩⟩] [] 16391)
  .ret)
  .skip))
 (.seq (.seq (.region [⟨true, ⟨(some 15), .mov (.t 0), [], none⟩⟩,
   ⟨true, ⟨(some 16), .len 1 (.t 15), [0], none⟩⟩,
   ⟨true, ⟨(some 17), .mov (.c (.int .i64 (.ofNat 0))), [], none⟩⟩] [] 16449)
 (.block 0 (.loop (.seq (.region [⟨true, ⟨(some 18), .bin .lss (.t 17) (.t 16), [], none⟩⟩] [] 0)
 (.seq (.cond (.t 18)
  .skip
  (.exit 0))
 (.seq (.block 1 (.seq (.region [⟨true, ⟨(some 19), .mov (.t 17), [], none⟩⟩,
   ⟨true, ⟨(some 20), .iaddr none 3 (.t 15) (.t 17), [], none⟩⟩,
   ⟨true, ⟨(some 21), .load (some 3) (.t 20), [1], none⟩⟩,
   ⟨true, ⟨(some 8), .alloc .dyn (.agg [(.str []), .nilsl, (.int .i64 (.ofNat 0))]), [], none⟩⟩,
   ⟨true, ⟨(some 7), .mov (.t 19), [0, 0, 1, 2, 3], none⟩⟩,
   ⟨false, ⟨none, .store 3 (.t 8) (.t 21), [3, 2, 4, 0, 1, 2, 3, 4], none⟩⟩] [] 3932160)
 (.seq (.region [⟨true, ⟨(some 22), .mov (.t 1), [], none⟩⟩,
   ⟨true, ⟨(some 23), .mov (.t 7), [], none⟩⟩,
   ⟨true, ⟨(some 24), .iaddr none 3 (.t 22) (.t 23), [0, 1], none⟩⟩,
   ⟨true, ⟨(some 25), .load (some 3) (.t 24), [2], none⟩⟩,
   ⟨true, ⟨(some 9), .alloc .dyn (.agg [(.str []), .nilsl, (.int .i64 (.ofNat 0))]), [], none⟩⟩,
   ⟨false, ⟨none, .store 3 (.t 9) (.t 25), [4, 3, 0, 1, 2, 3, 4], none⟩⟩] [] 62914688)
 (.seq (.region [⟨true, ⟨(some 26), .mov (.t 2), [], none⟩⟩,
   ⟨true, ⟨(some 27), .load (some 3) (.t 8), [], none⟩⟩,
   ⟨true, ⟨(some 28), .load (some 3) (.t 9), [], none⟩⟩,
   ⟨true, ⟨(some 29), .call .heap (.t 26) [(.t 27), (.t 28)], [0, 1, 2], none⟩⟩,
   ⟨true, ⟨(some 30), .un .not (.t 29), [3], none⟩⟩] [] 1006633728)
 (.cond (.t 30)
  (.seq (.region [⟨true, ⟨(some 6), .mov (.c (.bool false)), [], none⟩⟩] [] 1073971206)
  .ret)
  .skip)))))
 (.region [⟨true, ⟨(some 31), .bin .add (.t 17) (.c (.int .i64 (.ofNat 1))), [], none⟩⟩,
   ⟨false, ⟨(some 17), .mov (.t 31), [0], none⟩⟩] [] 3221225536)))))))
 (.seq (.region [⟨true, ⟨(some 6), .mov (.c (.bool true)), [], none⟩⟩] [] 229382)
 .ret))))⟩

-- overseer/cell.Equal$3
def f45 : FFn := ⟨24, [.tmp 4],
 (.seq (.region [⟨true, ⟨(some 2), .box .dyn (.t 0), [], none⟩⟩,
   ⟨true, ⟨(some 3), .box .dyn (.t 1), [], none⟩⟩,
   ⟨true, ⟨(some 4), .mov (.c (.bool false)), [], none⟩⟩] [] 19)
 (.seq (.region [⟨true, ⟨(some 5), .faddr 0 (.t 2), [], none⟩⟩,
   ⟨true, ⟨(some 6), .load none (.t 5), [0], none⟩⟩,
   ⟨true, ⟨(some 7), .faddr 0 (.t 3), [], none⟩⟩,
   ⟨true, ⟨(some 8), .load none (.t 7), [2], none⟩⟩,
   ⟨true, ⟨(some 9), .bin .eql (.t 6) (.t 8), [1, 3], none⟩⟩,
   ⟨true, ⟨(some 10), .mov (.t 9), [4], none⟩⟩,
   ⟨true, ⟨(some 11), .faddr 2 (.t 2), [5], (some (10, true))⟩⟩,
   ⟨true, ⟨(some 12), .load none (.t 11), [6, 5], (some (10, true))⟩⟩,
   ⟨true, ⟨(some 13), .faddr 2 (.t 3), [5], (some (10, true))⟩⟩,
   ⟨true, ⟨(some 14), .load none (.t 13), [8, 5], (some (10, true))⟩⟩,
   ⟨true, ⟨(some 15), .bin .eql (.t 12) (.t 14), [7, 9, 5], (some (10, true))⟩⟩,
   ⟨true, ⟨(some 16), .pick (.t 10) (.t 15) (.c (.bool false)), [5, 10], none⟩⟩,
   ⟨true, ⟨(some 17), .mov (.t 16), [11, 5], none⟩⟩,
   ⟨true, ⟨(some 18), .faddr 1 (.t 2), [12], (some (17, true))⟩⟩,
   ⟨true, ⟨(some 19), .load none (.t 18), [13, 12], (some (17, true))⟩⟩,
   ⟨true, ⟨(some 20), .faddr 1 (.t 3), [12], (some (17, true))⟩⟩,
   ⟨true, ⟨(some 21), .load none (.t 20), [15, 12], (some (17, true))⟩⟩,
   ⟨true, ⟨(some 22), .call .heap (.f 46) [(.t 19), (.t 21)], [14, 16, 12, 12], (some (17, true))⟩⟩,
   ⟨true, ⟨(some 23), .pick (.t 17) (.t 22) (.c (.bool false)), [12, 17], none⟩⟩,
   ⟨true, ⟨(some 4), .mov (.t 23), [18, 17, 0, 1, 2, 3, 4, 5, 6, 7, 8, 9, 10, 11, 12, 13, 14, 15, 16, 17, 18], none⟩⟩] [] 16777196)
 .ret))⟩

-- slices.Equal[[]overseer/api.Term,overseer/api.Term]
def f46 : FFn := ⟨26, [.tmp 4],
 (.seq (.region [⟨true, ⟨(some 4), .mov (.c (.bool false)), [], none⟩⟩] [] 16)
 (.seq (.seq (.region [⟨true, ⟨(some 6), .mov (.t 0), [], none⟩⟩,
   ⟨true, ⟨(some 7), .len 1 (.t 6), [0], none⟩⟩,
   ⟨true, ⟨(some 8), .mov (.t 1), [], none⟩⟩,
   ⟨true, ⟨(some 9), .len 1 (.t 8), [2], none⟩⟩,
   ⟨true, ⟨(some 10), .bin .neq (.t 7) (.t 9), [1, 3], none⟩⟩] [] 960)
 (.cond (.t 10)
  (.seq (.region [⟨true, ⟨(some 4), .mov (.c (.bool false)), [], none⟩⟩] [] 1027)
  .ret)
  .skip))
 (.seq (.seq (.region [⟨true, ⟨(some 11), .mov (.t 0), [], none⟩⟩,
   ⟨true, ⟨(some 12), .len 1 (.t 11), [0], none⟩⟩,
   ⟨true, ⟨(some 13), .mov (.c (.int .i64 (.ofNat 0))), [], none⟩⟩] [] 3088)
 (.block 0 (.loop (.seq (.region [⟨true, ⟨(some 14), .bin .lss (.t 13) (.t 12), [], none⟩⟩] [] 0)
 (.seq (.cond (.t 14)
  .skip
  (.exit 0))
 (.seq (.block 1 (.seq (.region [⟨true, ⟨(some 15), .mov (.t 13), [], none⟩⟩,
   ⟨true, ⟨(some 5), .mov (.t 15), [0, 0], none⟩⟩] [] 49152)
 (.seq (.region [⟨true, ⟨(some 16), .mov (.t 0), [], none⟩⟩,
   ⟨true, ⟨(some 17), .mov (.t 5), [], none⟩⟩,
   ⟨true, ⟨(some 18), .iaddr none 2 (.t 16) (.t 17), [0, 1], none⟩⟩,
   ⟨true, ⟨(some 19), .load (some 2) (.t 18), [2], none⟩⟩,
   ⟨true, ⟨(some 20), .mov (.t 1), [], none⟩⟩,
   ⟨true, ⟨(some 21), .mov (.t 5), [], none⟩⟩,
   ⟨true, ⟨(some 22), .iaddr none 2 (.t 20) (.t 21), [4, 5], none⟩⟩,
   ⟨true, ⟨(some 23), .load (some 2) (.t 22), [6], none⟩⟩,
   ⟨true, ⟨(some 24), .eq (.flat true [.i, .i]) true (.t 19) (.t 23), [3, 7], none⟩⟩] [] 16711712)
 (.cond (.t 24)
  (.seq (.region [⟨true, ⟨(some 4), .mov (.c (.bool false)), [], none⟩⟩] [] 16789507)
  .ret)
  .skip))))
 (.region [⟨true, ⟨(some 25), .bin .add (.t 13) (.c (.int .i64 (.ofNat 1))), [], none⟩⟩,
   ⟨false, ⟨(some 13), .mov (.t 25), [0], none⟩⟩] [] 50331664)))))))
 (.seq (.region [⟨true, ⟨(some 4), .mov (.c (.bool true)), [], none⟩⟩] [] 12291)
 .ret))))⟩

-- slices.Equal[[]int,int]
def f51 : FFn := ⟨26, [.tmp 4],
 (.seq (.region [⟨true, ⟨(some 4), .mov (.c (.bool false)), [], none⟩⟩] [] 16)
 (.seq (.seq (.region [⟨true, ⟨(some 6), .mov (.t 0), [], none⟩⟩,
   ⟨true, ⟨(some 7), .len 1 (.t 6), [0], none⟩⟩,
   ⟨true, ⟨(some 8), .mov (.t 1), [], none⟩⟩,
   ⟨true, ⟨(some 9), .len 1 (.t 8), [2], none⟩⟩,
   ⟨true, ⟨(some 10), .bin .neq (.t 7) (.t 9), [1, 3], none⟩⟩] [] 960)
 (.cond (.t 10)
  (.seq (.region [⟨true, ⟨(some 4), .mov (.c (.bool false)), [], none⟩⟩] [] 1027)
  .ret)
  .skip))
 (.seq (.seq (.region [⟨true, ⟨(some 11), .mov (.t 0), [], none⟩⟩,
   ⟨true, ⟨(some 12), .len 1 (.t 11), [0], none⟩⟩,
   ⟨true, ⟨(some 13), .mov (.c (.int .i64 (.ofNat 0))), [], none⟩⟩] [] 3088)
 (.block 0 (.loop (.seq (.region [⟨true, ⟨(some 14), .bin .lss (.t 13) (.t 12), [], none⟩⟩] [] 0)
 (.seq (.cond (.t 14)
  .skip
  (.exit 0))
 (.seq (.block 1 (.seq (.region [⟨true, ⟨(some 15), .mov (.t 13), [], none⟩⟩,
   ⟨true, ⟨(some 5), .mov (.t 15), [0, 0], none⟩⟩] [] 49152)
 (.seq (.region [⟨true, ⟨(some 16), .mov (.t 0), [], none⟩⟩,
   ⟨true, ⟨(some 17), .mov (.t 5), [], none⟩⟩,
   ⟨true, ⟨(some 18), .iaddr none 1 (.t 16) (.t 17), [0, 1], none⟩⟩,
   ⟨true, ⟨(some 19), .load none (.t 18), [2], none⟩⟩,
   ⟨true, ⟨(some 20), .mov (.t 1), [], none⟩⟩,
   ⟨true, ⟨(some 21), .mov (.t 5), [], none⟩⟩,
   ⟨true, ⟨(some 22), .iaddr none 1 (.t 20) (.t 21), [4, 5], none⟩⟩,
   ⟨true, ⟨(some 23), .load none (.t 22), [6], none⟩⟩,
   ⟨true, ⟨(some 24), .bin .neq (.t 19) (.t 23), [3, 7], none⟩⟩] [] 16711712)
 (.cond (.t 24)
  (.seq (.region [⟨true, ⟨(some 4), .mov (.c (.bool false)), [], none⟩⟩] [] 16789507)
  .ret)
  .skip))))
 (.region [⟨true, ⟨(some 25), .bin .add (.t 13) (.c (.int .i64 (.ofNat 1))), [], none⟩⟩,
   ⟨false, ⟨(some 13), .mov (.t 25), [0], none⟩⟩] [] 50331664)))))))
 (.seq (.region [⟨true, ⟨(some 4), .mov (.c (.bool true)), [], none⟩⟩] [] 12291)
 .ret))))⟩

-- overseer/catalogue.events
def f58 : FFn := ⟨36, [.tmp 4],
 (.seq (.region [⟨true, ⟨(some 4), .mov (.c .nilsl), [], none⟩⟩] [] 16)
 (.seq (.region [⟨true, ⟨(some 5), .mov (.c .nilsl), [], none⟩⟩] [] 0)
 (.seq (.seq (.region [⟨true, ⟨(some 9), .mov (.t 0), [], none⟩⟩,
   ⟨true, ⟨(some 10), .mov (.c (.int .i64 (.ofNat 0))), [], none⟩⟩] [] 1)
 (.block 0 (.loop (.seq (.region [⟨true, ⟨(some 11), .bin .lss (.t 10) (.t 9), [], none⟩⟩] [] 0)
 (.seq (.cond (.t 11)
  .skip
  (.exit 0))
 (.seq (.block 1 (.seq (.region [⟨true, ⟨(some 12), .mov (.t 10), [], none⟩⟩,
   ⟨true, ⟨(some 6), .mov (.t 12), [0, 0], none⟩⟩] [] 6144)
 (.seq (.region [⟨true, ⟨(some 13), .mov (.t 1), [], none⟩⟩,
   ⟨true, ⟨(some 14), .len 1 (.t 13), [0], none⟩⟩,
   ⟨true, ⟨(some 15), .mov (.c (.int .i64 (.ofNat 0))), [], none⟩⟩] [] 0)
 (.block 2 (.loop (.seq (.region [⟨true, ⟨(some 16), .bin .lss (.t 15) (.t 14), [], none⟩⟩] [] 0)
 (.seq (.cond (.t 16)
  .skip
  (.exit 2))
 (.seq (.block 3 (.seq (.region [⟨true, ⟨(some 17), .mov (.t 15), [], none⟩⟩,
   ⟨true, ⟨(some 18), .iaddr none 1 (.t 13) (.t 15), [], none⟩⟩,
   ⟨true, ⟨(some 19), .load none (.t 18), [1], none⟩⟩,
   ⟨true, ⟨(some 7), .mov (.t 17), [0, 0, 1, 2], none⟩⟩,
   ⟨true, ⟨(some 8), .mov (.t 19), [2, 3, 0, 1, 2, 3], none⟩⟩] [] 983040)
 (.region [⟨true, ⟨(some 20), .mov (.t 5), [], none⟩⟩,
   ⟨true, ⟨(some 21), .mov (.t 8), [], none⟩⟩,
   ⟨true, ⟨(some 22), .mov (.t 6), [], none⟩⟩,
   ⟨true, ⟨(some 23), .call .heap (.f 60) [(.t 22)], [2], none⟩⟩,
   ⟨true, ⟨(some 24), .bin .add (.t 21) (.t 23), [1, 3], none⟩⟩,
   ⟨true, ⟨(some 25), .mov (.t 7), [], none⟩⟩,
   ⟨true, ⟨(some 26), .mov (.t 1), [], none⟩⟩,
   ⟨true, ⟨(some 27), .len 1 (.t 26), [6], none⟩⟩,
   ⟨true, ⟨(some 28), .bin .sub (.t 27) (.c (.int .i64 (.ofNat 1))), [7], none⟩⟩,
   ⟨true, ⟨(some 29), .bin .lss (.t 25) (.t 28), [5, 8], none⟩⟩,
   ⟨true, ⟨(some 30), .build [(.str []), (.bool false), (.bool false), (.bool false), (.int .i64 (.ofNat 0))] [(0, 1, (.t 24)), (1, 1, (.t 29)), (2, 1, (.c (.bool true)))], [4, 9], none⟩⟩,
   ⟨true, ⟨(some 31), .bslice false .dyn 5 1 [(.str []), (.bool false), (.bool false), (.bool false), (.int .i64 (.ofNat 0))] [(0, 5, (.t 30))], [10], none⟩⟩,
   ⟨true, ⟨(some 32), .append .dyn 5 32 (.t 20) (.t 31), [0, 11, 3], none⟩⟩,
   ⟨false, ⟨(some 5), .mov (.t 32), [12, 12, 0, 1, 2, 3, 4, 5, 6, 7, 8, 9, 10, 11, 12], none⟩⟩] [] 8588886400)))
 (.region [⟨true, ⟨(some 33), .bin .add (.t 15) (.c (.int .i64 (.ofNat 1))), [], none⟩⟩,
   ⟨false, ⟨(some 15), .mov (.t 33), [0], none⟩⟩] [] 8589934592)))))))))
 (.region [⟨true, ⟨(some 34), .bin .add (.t 10) (.c (.int .i64 (.ofNat 1))), [], none⟩⟩,
   ⟨false, ⟨(some 10), .mov (.t 34), [0], none⟩⟩] [] 17179926592)))))))
 (.seq (.region [⟨true, ⟨(some 35), .mov (.t 5), [], none⟩⟩,
   ⟨true, ⟨(some 4), .mov (.t 35), [0, 0], none⟩⟩] [] 34359739938)
 .ret))))⟩

-- overseer/catalogue.machine
def f59 : FFn := ⟨28, [.cell 4 (some 5)],
 (.seq (.region [⟨true, ⟨(some 4), .alloc .dyn (.agg [(.str []), .nilsl, (.int .i64 (.ofNat 0)), .nilsl, .nilsl]), [], none⟩⟩] [] 0)
 (.seq (.region [⟨true, ⟨(some 6), .mov (.t 1), [], none⟩⟩,
   ⟨true, ⟨(some 7), .bin .mul (.c (.int .i64 (.ofNat 2))) (.t 6), [0], none⟩⟩,
   ⟨true, ⟨(some 8), .mov (.t 1), [], none⟩⟩,
   ⟨true, ⟨(some 9), .bin .mul (.c (.int .i64 (.ofNat 2))) (.t 8), [2], none⟩⟩,
   ⟨true, ⟨(some 10), .bin .add (.t 9) (.c (.int .i64 (.ofNat 1))), [3], none⟩⟩,
   ⟨true, ⟨(some 11), .bslice false .dyn 1 2 [(.int .i64 (.ofNat 0)), (.int .i64 (.ofNat 0))] [(0, 1, (.t 7)), (1, 1, (.t 10))], [1, 4], none⟩⟩,
   ⟨true, ⟨(some 12), .bslice false .dyn 1 1 [(.int .i64 (.ofNat 0))] [(0, 1, (.c (.int .i64 (.ofNat 0))))], [], none⟩⟩,
   ⟨true, ⟨(some 13), .mov (.t 1), [], none⟩⟩,
   ⟨true, ⟨(some 14), .bin .mul (.c (.int .i64 (.ofNat 2))) (.t 13), [7], none⟩⟩,
   ⟨true, ⟨(some 15), .build [(.int .i64 (.ofNat 0)), (.int .i64 (.ofNat 0)), (.int .i64 (.ofNat 0))] [(0, 1, (.c (.int .i64 (.ofNat 0)))), (1, 1, (.t 14)), (2, 1, (.c (.int .i64 (.ofNat 1))))], [8], none⟩⟩,
   ⟨true, ⟨(some 16), .mov (.t 1), [], none⟩⟩,
   ⟨true, ⟨(some 17), .bin .mul (.c (.int .i64 (.ofNat 2))) (.t 16), [10], none⟩⟩,
   ⟨true, ⟨(some 18), .bin .add (.t 17) (.c (.int .i64 (.ofNat 1))), [11], none⟩⟩,
   ⟨true, ⟨(some 19), .build [(.int .i64 (.ofNat 0)), (.int .i64 (.ofNat 0)), (.int .i64 (.ofNat 0))] [(0, 1, (.c (.int .i64 (.ofNat 1)))), (1, 1, (.t 18)), (2, 1, (.c (.int .i64 (.ofNat 0))))], [12], none⟩⟩,
   ⟨true, ⟨(some 20), .bslice false .dyn 3 2 [(.int .i64 (.ofNat 0)), (.int .i64 (.ofNat 0)), (.int .i64 (.ofNat 0)), (.int .i64 (.ofNat 0)), (.int .i64 (.ofNat 0)), (.int .i64 (.ofNat 0))] [(0, 3, (.t 15)), (3, 3, (.t 19))], [9, 13], none⟩⟩,
   ⟨true, ⟨(some 21), .build [.nilsl, (.int .i64 (.ofNat 0)), .nilsl, .nilsl] [(0, 1, (.t 11)), (1, 1, (.c (.int .i64 (.ofNat 2)))), (2, 1, (.t 12)), (3, 1, (.t 20))], [5, 6, 14], none⟩⟩,
   ⟨true, ⟨(some 5), .alloc .dyn (.agg [.nilsl, (.int .i64 (.ofNat 0)), .nilsl, .nilsl]), [], none⟩⟩,
   ⟨false, ⟨none, .store 4 (.t 5) (.t 21), [16, 15, 0, 1, 2, 3, 4, 5, 6, 7, 8, 9, 10, 11, 12, 13, 14, 15, 16], none⟩⟩] [] 4194240)
 (.seq (.region [⟨true, ⟨(some 22), .mov (.t 0), [], none⟩⟩,
   ⟨true, ⟨(some 23), .mov (.t 1), [], none⟩⟩,
   ⟨true, ⟨(some 24), .call .borrow (.f 60) [(.t 23)], [1], none⟩⟩,
   ⟨true, ⟨(some 25), .bin .add (.t 22) (.t 24), [0, 2], none⟩⟩,
   ⟨true, ⟨(some 26), .load (some 4) (.t 5), [], none⟩⟩,
   ⟨true, ⟨(some 27), .build [(.str []), .nilsl, (.int .i64 (.ofNat 0)), .nilsl, .nilsl] [(0, 1, (.t 25)), (1, 4, (.t 26))], [3, 4], none⟩⟩,
   ⟨false, ⟨none, .store 5 (.t 4) (.t 27), [5, 2, 0, 1, 2, 3, 4, 5], none⟩⟩] [] 264241187)
 .ret)))⟩

-- strconv.Itoa
def f60 : FFn := ⟨5, [.tmp 2],
 (.seq (.region [⟨true, ⟨(some 2), .mov (.c (.str [])), [], none⟩⟩] [] 4)
 (.seq (.region [⟨true, ⟨(some 3), .mov (.t 0), [], none⟩⟩,
   ⟨true, ⟨(some 4), .call .heap (.f 70) [(.t 3)], [0], none⟩⟩,
   ⟨true, ⟨(some 2), .mov (.t 4), [1, 1, 0, 1], none⟩⟩] [] 25)
 .ret))⟩

-- slices.Sort[[]int,int]
def f61 : FFn := ⟨11, [],
 (.seq (.region [⟨true, ⟨(some 3), .mov (.t 0), [], none⟩⟩,
   ⟨true, ⟨(some 4), .len 1 (.t 3), [0], none⟩⟩,
   ⟨true, ⟨(some 2), .mov (.t 4), [1, 0, 1], none⟩⟩] [] 24)
 (.region [⟨true, ⟨(some 5), .mov (.t 0), [], none⟩⟩,
   ⟨true, ⟨(some 6), .mov (.t 2), [], none⟩⟩,
   ⟨true, ⟨(some 7), .mov (.t 2), [], none⟩⟩,
   ⟨true, ⟨(some 8), .conv .u64 (.t 7), [2], none⟩⟩,
   ⟨true, ⟨(some 9), .call .heap (.f 72) [(.t 8)], [3], none⟩⟩,
   ⟨true, ⟨(some 10), .call .heap (.f 71) [(.t 5), (.c (.int .i64 (.ofNat 0))), (.t 6), (.t 9)], [0, 1, 4, 4], none⟩⟩] [] 2021))⟩

-- slices.Equal[[]overseer/api.Edge,overseer/api.Edge]
def f62 : FFn := ⟨26, [.tmp 4],
 (.seq (.region [⟨true, ⟨(some 4), .mov (.c (.bool false)), [], none⟩⟩] [] 16)
 (.seq (.seq (.region [⟨true, ⟨(some 6), .mov (.t 0), [], none⟩⟩,
   ⟨true, ⟨(some 7), .len 1 (.t 6), [0], none⟩⟩,
   ⟨true, ⟨(some 8), .mov (.t 1), [], none⟩⟩,
   ⟨true, ⟨(some 9), .len 1 (.t 8), [2], none⟩⟩,
   ⟨true, ⟨(some 10), .bin .neq (.t 7) (.t 9), [1, 3], none⟩⟩] [] 960)
 (.cond (.t 10)
  (.seq (.region [⟨true, ⟨(some 4), .mov (.c (.bool false)), [], none⟩⟩] [] 1027)
  .ret)
  .skip))
 (.seq (.seq (.region [⟨true, ⟨(some 11), .mov (.t 0), [], none⟩⟩,
   ⟨true, ⟨(some 12), .len 1 (.t 11), [0], none⟩⟩,
   ⟨true, ⟨(some 13), .mov (.c (.int .i64 (.ofNat 0))), [], none⟩⟩] [] 3088)
 (.block 0 (.loop (.seq (.region [⟨true, ⟨(some 14), .bin .lss (.t 13) (.t 12), [], none⟩⟩] [] 0)
 (.seq (.cond (.t 14)
  .skip
  (.exit 0))
 (.seq (.block 1 (.seq (.region [⟨true, ⟨(some 15), .mov (.t 13), [], none⟩⟩,
   ⟨true, ⟨(some 5), .mov (.t 15), [0, 0], none⟩⟩] [] 49152)
 (.seq (.region [⟨true, ⟨(some 16), .mov (.t 0), [], none⟩⟩,
   ⟨true, ⟨(some 17), .mov (.t 5), [], none⟩⟩,
   ⟨true, ⟨(some 18), .iaddr none 3 (.t 16) (.t 17), [0, 1], none⟩⟩,
   ⟨true, ⟨(some 19), .load (some 3) (.t 18), [2], none⟩⟩,
   ⟨true, ⟨(some 20), .mov (.t 1), [], none⟩⟩,
   ⟨true, ⟨(some 21), .mov (.t 5), [], none⟩⟩,
   ⟨true, ⟨(some 22), .iaddr none 3 (.t 20) (.t 21), [4, 5], none⟩⟩,
   ⟨true, ⟨(some 23), .load (some 3) (.t 22), [6], none⟩⟩,
   ⟨true, ⟨(some 24), .eq (.flat true [.i, .i, .i]) true (.t 19) (.t 23), [3, 7], none⟩⟩] [] 16711712)
 (.cond (.t 24)
  (.seq (.region [⟨true, ⟨(some 4), .mov (.c (.bool false)), [], none⟩⟩] [] 16789507)
  .ret)
  .skip))))
 (.region [⟨true, ⟨(some 25), .bin .add (.t 13) (.c (.int .i64 (.ofNat 1))), [], none⟩⟩,
   ⟨false, ⟨(some 13), .mov (.t 25), [0], none⟩⟩] [] 50331664)))))))
 (.seq (.region [⟨true, ⟨(some 4), .mov (.c (.bool true)), [], none⟩⟩] [] 12291)
 .ret))))⟩

-- internal/strconv.Itoa
def f70 : FFn := ⟨5, [.tmp 2],
 (.seq (.region [⟨true, ⟨(some 2), .mov (.c (.str [])), [], none⟩⟩] [] 4)
 (.seq (.region [⟨true, ⟨(some 3), .mov (.t 0), [], none⟩⟩,
   ⟨true, ⟨(some 4), .call .heap (.f 84) [(.t 3), (.c (.int .i64 (.ofNat 10)))], [0], none⟩⟩,
   ⟨true, ⟨(some 2), .mov (.t 4), [1, 1, 0, 1], none⟩⟩] [] 25)
 .ret))⟩

-- slices.pdqsortOrdered[int]
def f71 : FFn := ⟨134, [],
 (.seq (.region [⟨true, ⟨(some 8), .mov (.c (.bool true)), [], none⟩⟩] [] 0)
 (.seq (.region [⟨true, ⟨(some 9), .mov (.c (.bool true)), [], none⟩⟩] [] 0)
 (.block 0 (.loop (.block 1 (.seq (.region [⟨true, ⟨(some 19), .mov (.t 2), [], none⟩⟩,
   ⟨true, ⟨(some 20), .mov (.t 1), [], none⟩⟩,
   ⟨true, ⟨(some 21), .bin .sub (.t 19) (.t 20), [0, 1], none⟩⟩,
   ⟨true, ⟨(some 10), .mov (.t 21), [2, 0, 1, 2], none⟩⟩] [] 3670016)
 (.seq (.seq (.region [⟨true, ⟨(some 22), .mov (.t 10), [], none⟩⟩,
   ⟨true, ⟨(some 23), .bin .leq (.t 22) (.c (.int .i64 (.ofNat 12))), [0], none⟩⟩] [] 4194304)
 (.cond (.t 23)
  (.seq (.region [⟨true, ⟨(some 24), .mov (.t 0), [], none⟩⟩,
    ⟨true, ⟨(some 25), .mov (.t 1), [], none⟩⟩,
    ⟨true, ⟨(some 26), .mov (.t 2), [], none⟩⟩,
    ⟨true, ⟨(some 27), .call .heap (.f 85) [(.t 24), (.t 25), (.t 26)], [0, 1, 2], none⟩⟩] [] 154667177631247541668415247)
  .ret)
  .skip))
 (.seq (.seq (.region [⟨true, ⟨(some 28), .mov (.t 3), [], none⟩⟩,
   ⟨true, ⟨(some 29), .bin .eql (.t 28) (.c (.int .i64 (.ofNat 0))), [0], none⟩⟩] [] 276824064)
 (.cond (.t 29)
  (.seq (.region [⟨true, ⟨(some 30), .mov (.t 0), [], none⟩⟩,
    ⟨true, ⟨(some 31), .mov (.t 1), [], none⟩⟩,
    ⟨true, ⟨(some 32), .mov (.t 2), [], none⟩⟩,
    ⟨true, ⟨(some 33), .call .heap (.f 86) [(.t 30), (.t 31), (.t 32)], [0, 1, 2], none⟩⟩] [] 154667177631247558051366671)
  .ret)
  .skip))
 (.seq (.seq (.region [⟨true, ⟨(some 34), .mov (.t 8), [], none⟩⟩,
   ⟨true, ⟨(some 35), .un .not (.t 34), [0], none⟩⟩] [] 17716740096)
 (.cond (.t 35)
  (.seq (.region [⟨true, ⟨(some 36), .mov (.t 0), [], none⟩⟩,
    ⟨true, ⟨(some 37), .mov (.t 1), [], none⟩⟩,
    ⟨true, ⟨(some 38), .mov (.t 2), [], none⟩⟩,
    ⟨true, ⟨(some 39), .call .heap (.f 87) [(.t 36), (.t 37), (.t 38)], [0, 1, 2], none⟩⟩] [] 1065151889408)
  (.region [⟨true, ⟨(some 40), .mov (.t 3), [], none⟩⟩,
    ⟨true, ⟨(some 41), .bin .sub (.t 40) (.c (.int .i64 (.ofNat 1))), [0], none⟩⟩,
    ⟨false, ⟨(some 3), .mov (.t 41), [1, 0, 1], none⟩⟩] [] 3298534883328))
  .skip))
 (.seq (.region [⟨true, ⟨(some 43), .mov (.t 0), [], none⟩⟩,
   ⟨true, ⟨(some 44), .mov (.t 1), [], none⟩⟩,
   ⟨true, ⟨(some 45), .mov (.t 2), [], none⟩⟩,
   ⟨true, ⟨(some 46), .call .heap (.f 88) [(.t 43), (.t 44), (.t 45)], [0, 1, 2], none⟩⟩,
   ⟨true, ⟨(some 42), .mov (.t 46), [3], none⟩⟩,
   ⟨true, ⟨(some 47), .extract 0 (.t 42), [4], none⟩⟩,
   ⟨true, ⟨(some 48), .extract 1 (.t 42), [4], none⟩⟩,
   ⟨true, ⟨(some 11), .mov (.t 47), [5, 3, 0, 1, 2, 3, 4, 5], none⟩⟩,
   ⟨true, ⟨(some 12), .mov (.t 48), [6, 7, 0, 1, 2, 3, 4, 5, 6, 7], none⟩⟩] [] 558586266648576)
 (.seq (.seq (.region [⟨true, ⟨(some 49), .mov (.t 12), [], none⟩⟩,
   ⟨true, ⟨(some 50), .bin .eql (.t 49) (.c (.int .i64 (.ofNat 2))), [0], none⟩⟩] [] 562949953421312)
 (.cond (.t 50)
  (.seq (.region [⟨true, ⟨(some 51), .mov (.t 0), [], none⟩⟩,
    ⟨true, ⟨(some 52), .mov (.t 1), [], none⟩⟩,
    ⟨true, ⟨(some 53), .mov (.t 2), [], none⟩⟩,
    ⟨true, ⟨(some 54), .call .heap (.f 89) [(.t 51), (.t 52), (.t 53)], [0, 1, 2], none⟩⟩] [] 34902897112125440)
  (.seq (.region [⟨true, ⟨(some 55), .mov (.t 2), [], none⟩⟩,
    ⟨true, ⟨(some 56), .bin .sub (.t 55) (.c (.int .i64 (.ofNat 1))), [0], none⟩⟩,
    ⟨true, ⟨(some 57), .mov (.t 11), [], none⟩⟩,
    ⟨true, ⟨(some 58), .mov (.t 1), [], none⟩⟩,
    ⟨true, ⟨(some 59), .bin .sub (.t 57) (.t 58), [2, 3], none⟩⟩,
    ⟨true, ⟨(some 60), .bin .sub (.t 56) (.t 59), [1, 4], none⟩⟩,
    ⟨false, ⟨(some 11), .mov (.t 60), [5, 0, 1, 2, 3, 4, 5], none⟩⟩] [] 2269814212194729984)
  (.region [⟨true, ⟨(some 12), .mov (.c (.int .i64 (.ofNat 1))), [], none⟩⟩] [] 0)))
  .skip))
 (.seq (.seq (.region [⟨true, ⟨(some 61), .mov (.t 8), [], none⟩⟩,
   ⟨true, ⟨(some 62), .mov (.t 61), [0], none⟩⟩,
   ⟨false, ⟨(some 63), .mov (.t 9), [1], (some (62, true))⟩⟩,
   ⟨true, ⟨(some 64), .pick (.t 62) (.t 63) (.c (.bool false)), [1, 2], none⟩⟩,
   ⟨true, ⟨(some 65), .mov (.t 64), [3, 1], none⟩⟩,
   ⟨false, ⟨(some 66), .mov (.t 12), [4], (some (65, true))⟩⟩,
   ⟨false, ⟨(some 67), .bin .eql (.t 66) (.c (.int .i64 (.ofNat 1))), [5, 4], (some (65, true))⟩⟩,
   ⟨true, ⟨(some 68), .pick (.t 65) (.t 67) (.c (.bool false)), [4, 6], none⟩⟩] [] 62258887148676583424)
 (.cond (.t 68)
  (.seq (.region [⟨true, ⟨(some 69), .mov (.t 0), [], none⟩⟩,
    ⟨true, ⟨(some 70), .mov (.t 1), [], none⟩⟩,
    ⟨true, ⟨(some 71), .mov (.t 2), [], none⟩⟩,
    ⟨true, ⟨(some 72), .call .heap (.f 90) [(.t 69), (.t 70), (.t 71)], [0, 1, 2], none⟩⟩] [] 4427218577690292387840)
  (.cond (.t 72)
   .ret
   .skip))
  .skip))
 (.seq (.seq (.region [⟨true, ⟨(some 73), .mov (.t 1), [], none⟩⟩,
   ⟨true, ⟨(some 74), .bin .gtr (.t 73) (.c (.int .i64 (.ofNat 0))), [0], none⟩⟩,
   ⟨true, ⟨(some 75), .mov (.t 74), [1], none⟩⟩,
   ⟨false, ⟨(some 76), .mov (.t 0), [2], (some (75, true))⟩⟩,
   ⟨false, ⟨(some 77), .mov (.t 1), [2], (some (75, true))⟩⟩,
   ⟨false, ⟨(some 78), .bin .sub (.t 77) (.c (.int .i64 (.ofNat 1))), [4, 2], (some (75, true))⟩⟩,
   ⟨false, ⟨(some 79), .iaddr none 1 (.t 76) (.t 78), [3, 5, 2], (some (75, true))⟩⟩,
   ⟨false, ⟨(some 80), .load none (.t 79), [6, 2], (some (75, true))⟩⟩,
   ⟨false, ⟨(some 81), .mov (.t 0), [2], (some (75, true))⟩⟩,
   ⟨false, ⟨(some 82), .mov (.t 11), [2], (some (75, true))⟩⟩,
   ⟨false, ⟨(some 83), .iaddr none 1 (.t 81) (.t 82), [8, 9, 2], (some (75, true))⟩⟩,
   ⟨false, ⟨(some 84), .load none (.t 83), [10, 2], (some (75, true))⟩⟩,
   ⟨false, ⟨(some 85), .call .heap (.f 91) [(.t 80), (.t 84)], [7, 11, 2, 2], (some (75, true))⟩⟩,
   ⟨false, ⟨(some 86), .un .not (.t 85), [12, 2], (some (75, true))⟩⟩,
   ⟨true, ⟨(some 87), .pick (.t 75) (.t 86) (.c (.bool false)), [2, 13], none⟩⟩] [] 71130645148224031031296)
 (.cond (.t 87)
  (.seq (.region [⟨true, ⟨(some 88), .mov (.t 0), [], none⟩⟩,
    ⟨true, ⟨(some 89), .mov (.t 1), [], none⟩⟩,
    ⟨true, ⟨(some 90), .mov (.t 2), [], none⟩⟩,
    ⟨true, ⟨(some 91), .mov (.t 11), [], none⟩⟩,
    ⟨true, ⟨(some 92), .call .heap (.f 92) [(.t 88), (.t 89), (.t 90), (.t 91)], [0, 1, 2, 3], none⟩⟩,
    ⟨true, ⟨(some 13), .mov (.t 92), [4, 4, 0, 1, 2, 3, 4], none⟩⟩] [] 9748777809372369664830606338)
  (.seq (.region [⟨true, ⟨(some 93), .mov (.t 13), [], none⟩⟩,
    ⟨true, ⟨(some 1), .mov (.t 93), [0, 0], none⟩⟩] [] 9903520314283042199193001984)
  (.exit 1)))
  .skip))
 (.seq (.region [⟨true, ⟨(some 95), .mov (.t 0), [], none⟩⟩,
   ⟨true, ⟨(some 96), .mov (.t 1), [], none⟩⟩,
   ⟨true, ⟨(some 97), .mov (.t 2), [], none⟩⟩,
   ⟨true, ⟨(some 98), .mov (.t 11), [], none⟩⟩,
   ⟨true, ⟨(some 99), .call .heap (.f 93) [(.t 95), (.t 96), (.t 97), (.t 98)], [0, 1, 2, 3], none⟩⟩,
   ⟨true, ⟨(some 94), .mov (.t 99), [4], none⟩⟩,
   ⟨true, ⟨(some 100), .extract 0 (.t 94), [5], none⟩⟩,
   ⟨true, ⟨(some 101), .extract 1 (.t 94), [5], none⟩⟩,
   ⟨true, ⟨(some 14), .mov (.t 100), [6, 4, 0, 1, 2, 3, 4, 5, 6], none⟩⟩,
   ⟨true, ⟨(some 15), .mov (.t 101), [7, 8, 0, 1, 2, 3, 4, 5, 6, 7, 8], none⟩⟩] [] 5050950102789262194122789227264)
 (.seq (.region [⟨true, ⟨(some 102), .mov (.t 15), [], none⟩⟩,
   ⟨true, ⟨(some 9), .mov (.t 102), [0, 0], none⟩⟩] [] 5070602400912917605986812854272)
 (.seq (.region [⟨true, ⟨(some 103), .mov (.t 14), [], none⟩⟩,
   ⟨true, ⟨(some 104), .mov (.t 1), [], none⟩⟩,
   ⟨true, ⟨(some 105), .bin .sub (.t 103) (.t 104), [0, 1], none⟩⟩,
   ⟨true, ⟨(some 106), .mov (.t 2), [], none⟩⟩,
   ⟨true, ⟨(some 107), .mov (.t 14), [], none⟩⟩,
   ⟨true, ⟨(some 108), .bin .sub (.t 106) (.t 107), [3, 4], none⟩⟩,
   ⟨true, ⟨(some 16), .mov (.t 105), [2, 0, 1, 2], none⟩⟩,
   ⟨true, ⟨(some 17), .mov (.t 108), [5, 6, 0, 1, 2, 3, 4, 5, 6], none⟩⟩] [] 638895902515027618354338415509504)
 (.seq (.region [⟨true, ⟨(some 109), .mov (.t 10), [], none⟩⟩,
   ⟨true, ⟨(some 110), .bin .quo (.t 109) (.c (.int .i64 (.ofNat 8))), [0], none⟩⟩,
   ⟨true, ⟨(some 18), .mov (.t 110), [1, 0, 1], none⟩⟩] [] 1947111321950560360698936123458560)
 (.seq (.region [⟨true, ⟨(some 111), .mov (.t 16), [], none⟩⟩,
   ⟨true, ⟨(some 112), .mov (.t 17), [], none⟩⟩,
   ⟨true, ⟨(some 113), .bin .lss (.t 111) (.t 112), [0, 1], none⟩⟩] [] 7788445287802241442795744493830144)
 (.cond (.t 113)
  (.seq (.region [⟨true, ⟨(some 114), .mov (.t 16), [], none⟩⟩,
    ⟨true, ⟨(some 115), .mov (.t 18), [], none⟩⟩,
    ⟨true, ⟨(some 116), .bin .geq (.t 114) (.t 115), [0, 1], none⟩⟩,
    ⟨true, ⟨(some 8), .mov (.t 116), [2, 0, 1, 2], none⟩⟩] [] 155768905756044828855914889877061632)
  (.seq (.region [⟨true, ⟨(some 117), .mov (.t 0), [], none⟩⟩,
    ⟨true, ⟨(some 118), .mov (.t 1), [], none⟩⟩,
    ⟨true, ⟨(some 119), .mov (.t 14), [], none⟩⟩,
    ⟨true, ⟨(some 120), .mov (.t 3), [], none⟩⟩,
    ⟨true, ⟨(some 121), .call .heap (.f 71) [(.t 117), (.t 118), (.t 119), (.t 120)], [0, 1, 2, 3], none⟩⟩] [] 5150758483666549007502252358586335234)
  (.region [⟨true, ⟨(some 122), .mov (.t 14), [], none⟩⟩,
    ⟨true, ⟨(some 123), .bin .add (.t 122) (.c (.int .i64 (.ofNat 1))), [0], none⟩⟩,
    ⟨true, ⟨(some 1), .mov (.t 123), [1, 0, 1], none⟩⟩] [] 15950735949418990474845684723364151296)))
  (.seq (.region [⟨true, ⟨(some 124), .mov (.t 17), [], none⟩⟩,
    ⟨true, ⟨(some 125), .mov (.t 18), [], none⟩⟩,
    ⟨true, ⟨(some 126), .bin .geq (.t 124) (.t 125), [0, 1], none⟩⟩,
    ⟨true, ⟨(some 8), .mov (.t 126), [2, 0, 1, 2], none⟩⟩] [] 148883920121627647420483451744057491456)
  (.seq (.region [⟨true, ⟨(some 127), .mov (.t 0), [], none⟩⟩,
    ⟨true, ⟨(some 128), .mov (.t 14), [], none⟩⟩,
    ⟨true, ⟨(some 129), .bin .add (.t 128) (.c (.int .i64 (.ofNat 1))), [1], none⟩⟩,
    ⟨true, ⟨(some 130), .mov (.t 2), [], none⟩⟩,
    ⟨true, ⟨(some 131), .mov (.t 3), [], none⟩⟩,
    ⟨true, ⟨(some 132), .call .heap (.f 71) [(.t 127), (.t 129), (.t 130), (.t 131)], [0, 2, 3, 4], none⟩⟩] [] 10718894558009561599096300134100698660868)
  (.region [⟨true, ⟨(some 133), .mov (.t 14), [], none⟩⟩,
    ⟨true, ⟨(some 2), .mov (.t 133), [0, 0], none⟩⟩] [] 10889035741470030830827987437816582782976))))))))))))))))))))))⟩

-- math/bits.Len
def f72 : FFn := ⟨8, [.tmp 2],
 (.seq (.region [⟨true, ⟨(some 2), .mov (.c (.int .i64 (.ofNat 0))), [], none⟩⟩] [] 4)
 (.seq (.cond (.c (.bool false))
  (.seq (.region [⟨true, ⟨(some 3), .mov (.t 0), [], none⟩⟩,
    ⟨true, ⟨(some 4), .conv .u32 (.t 3), [0], none⟩⟩,
    ⟨true, ⟨(some 5), .call .heap (.f 94) [(.t 4)], [1], none⟩⟩,
    ⟨true, ⟨(some 2), .mov (.t 5), [2, 2, 0, 1, 2], none⟩⟩] [] 57)
  .ret)
  .skip)
 (.seq (.region [⟨true, ⟨(some 6), .mov (.t 0), [], none⟩⟩,
   ⟨true, ⟨(some 7), .call .heap (.f 95) [(.t 6)], [0], none⟩⟩,
   ⟨false, ⟨(some 2), .mov (.t 7), [1, 1, 0, 1], none⟩⟩] [] 193)
 .ret)))⟩

-- internal/strconv.FormatInt
def f84 : FFn := ⟨54, [.tmp 4],
 (.seq (.region [⟨true, ⟨(some 4), .mov (.c (.str [])), [], none⟩⟩] [] 16)
 (.seq (.seq (.region [⟨true, ⟨(some 10), .mov (.t 1), [], none⟩⟩,
   ⟨true, ⟨(some 11), .bin .eql (.t 10) (.c (.int .i64 (.ofNat 10))), [0], none⟩⟩] [] 1024)
 (.cond (.t 11)
  (.seq (.seq (.region [⟨true, ⟨(some 12), .mov (.t 0), [], none⟩⟩,
    ⟨true, ⟨(some 13), .bin .leq (.c (.int .i64 (.ofNat 0))) (.t 12), [0], none⟩⟩,
    ⟨true, ⟨(some 14), .mov (.t 13), [1], none⟩⟩,
    ⟨true, ⟨(some 15), .mov (.t 0), [2], (some (14, true))⟩⟩,
    ⟨true, ⟨(some 16), .bin .lss (.t 15) (.c (.int .i64 (.ofNat 100))), [3, 2], (some (14, true))⟩⟩,
    ⟨true, ⟨(some 17), .pick (.t 14) (.t 16) (.c (.bool false)), [2, 4], none⟩⟩] [] 129026)
  (.cond (.t 17)
   (.seq (.region [⟨true, ⟨(some 18), .mov (.t 0), [], none⟩⟩,
     ⟨true, ⟨(some 19), .call .heap (.f 102) [(.t 18)], [0], none⟩⟩,
     ⟨true, ⟨(some 4), .mov (.t 19), [1, 1, 0, 1], none⟩⟩] [] 917505)
   .ret)
   .skip))
  (.seq (.region [⟨true, ⟨(some 5), .alloc .dyn (.agg [(.int .u8 (.ofNat 0)), (.int .u8 (.ofNat 0)), (.int .u8 (.ofNat 0)), (.int .u8 (.ofNat 0)), (.int .u8 (.ofNat 0)), (.int .u8 (.ofNat 0)), (.int .u8 (.ofNat 0)), (.int .u8 (.ofNat 0)), (.int .u8 (.ofNat 0)), (.int .u8 (.ofNat 0)), (.int .u8 (.ofNat 0)), (.int .u8 (.ofNat 0)), (.int .u8 (.ofNat 0)), (.int .u8 (.ofNat 0)), (.int .u8 (.ofNat 0)), (.int .u8 (.ofNat 0)), (.int .u8 (.ofNat 0)), (.int .u8 (.ofNat 0)), (.int .u8 (.ofNat 0)), (.int .u8 (.ofNat 0)), (.int .u8 (.ofNat 0)), (.int .u8 (.ofNat 0)), (.int .u8 (.ofNat 0)), (.int .u8 (.ofNat 0))]), [], none⟩⟩] [] 131088)
  (.seq (.region [⟨true, ⟨(some 20), .mov (.t 0), [], none⟩⟩,
    ⟨true, ⟨(some 21), .conv .u64 (.t 20), [0], none⟩⟩,
    ⟨true, ⟨(some 6), .mov (.t 21), [1, 0, 1], none⟩⟩] [] 3145728)
  (.seq (.seq (.region [⟨true, ⟨(some 22), .mov (.t 0), [], none⟩⟩,
    ⟨true, ⟨(some 23), .bin .lss (.t 22) (.c (.int .i64 (.ofNat 0))), [0], none⟩⟩] [] 4194304)
  (.cond (.t 23)
   (.region [⟨true, ⟨(some 24), .mov (.t 6), [], none⟩⟩,
     ⟨true, ⟨(some 25), .un .neg (.t 24), [0], none⟩⟩,
     ⟨false, ⟨(some 6), .mov (.t 25), [1, 0, 1], none⟩⟩] [] 58720256)
   .skip))
  (.seq (.region [⟨true, ⟨(some 26), .mov (.t 6), [], none⟩⟩,
    ⟨true, ⟨(some 27), .call .heap (.f 103) [(.t 26)], [0], none⟩⟩,
    ⟨true, ⟨(some 7), .mov (.t 27), [1, 1, 0, 1], none⟩⟩] [] 209715200)
  (.seq (.region [⟨true, ⟨(some 28), .mov (.t 7), [], none⟩⟩,
    ⟨true, ⟨(some 29), .bin .add (.c (.int .i64 (.ofNat 1))) (.t 28), [0], none⟩⟩,
    ⟨true, ⟨(some 30), .bad, [1], none⟩⟩,
    ⟨true, ⟨(some 31), .mov (.t 6), [], none⟩⟩,
    ⟨true, ⟨(some 32), .call .heap (.f 104) [(.t 30), (.t 31)], [2, 3], none⟩⟩] [] 8321499200)
  (.seq (.seq (.region [⟨true, ⟨(some 33), .mov (.t 0), [], none⟩⟩,
    ⟨true, ⟨(some 34), .bin .lss (.t 33) (.c (.int .i64 (.ofNat 0))), [0], none⟩⟩] [] 8589934593)
  (.cond (.t 34)
   (.seq (.region [⟨true, ⟨(some 35), .iaddr (some 24) 1 (.t 5) (.c (.int .i64 (.ofNat 0))), [], none⟩⟩,
     ⟨false, ⟨none, .store 1 (.t 35) (.c (.int .u8 (.ofNat 45))), [0], none⟩⟩] [] 51539607584)
   (.seq (.region [⟨true, ⟨(some 36), .mov (.t 7), [], none⟩⟩,
     ⟨true, ⟨(some 37), .bin .add (.c (.int .i64 (.ofNat 1))) (.t 36), [0], none⟩⟩,
     ⟨true, ⟨(some 38), .bad, [1], none⟩⟩,
     ⟨true, ⟨(some 39), .bad, [2], none⟩⟩,
     ⟨true, ⟨(some 4), .mov (.t 39), [3, 0, 1, 2, 3], none⟩⟩] [] 1030792151168)
   .ret))
   .skip))
  (.seq (.region [⟨true, ⟨(some 40), .mov (.t 7), [], none⟩⟩,
    ⟨true, ⟨(some 41), .bin .add (.c (.int .i64 (.ofNat 1))) (.t 40), [0], none⟩⟩,
    ⟨true, ⟨(some 42), .bad, [1], none⟩⟩,
    ⟨true, ⟨(some 43), .bad, [2], none⟩⟩,
    ⟨false, ⟨(some 4), .mov (.t 43), [3, 0, 1, 2, 3], none⟩⟩] [] 16509854285984)
  .ret))))))))
  .skip))
 (.seq (.region [⟨true, ⟨(some 45), .mov (.t 0), [], none⟩⟩,
   ⟨true, ⟨(some 46), .conv .u64 (.t 45), [0], none⟩⟩,
   ⟨true, ⟨(some 47), .mov (.t 1), [], none⟩⟩,
   ⟨true, ⟨(some 48), .mov (.t 0), [], none⟩⟩,
   ⟨true, ⟨(some 49), .bin .lss (.t 48) (.c (.int .i64 (.ofNat 0))), [3], none⟩⟩,
   ⟨true, ⟨(some 50), .call .heap (.f 105) [(.c .nilsl), (.t 46), (.t 47), (.t 49), (.c (.bool false))], [1, 2, 4], none⟩⟩,
   ⟨true, ⟨(some 44), .mov (.t 50), [5], none⟩⟩,
   ⟨true, ⟨(some 51), .extract 0 (.t 44), [6], none⟩⟩,
   ⟨true, ⟨(some 52), .extract 1 (.t 44), [6], none⟩⟩,
   ⟨true, ⟨(some 8), .mov (.t 51), [7, 5, 0, 1, 2, 3, 4, 5, 6, 7], none⟩⟩,
   ⟨true, ⟨(some 9), .mov (.t 52), [8, 9, 0, 1, 2, 3, 4, 5, 6, 7, 8, 9], none⟩⟩] [] 8989607068698899)
 (.seq (.region [⟨true, ⟨(some 53), .mov (.t 9), [], none⟩⟩,
   ⟨true, ⟨(some 4), .mov (.t 53), [0, 0], none⟩⟩] [] 9007199254741504)
 .ret))))⟩

-- slices.insertionSortOrdered[int]
def f85 : FFn := ⟨49, [],
 (.seq (.region [⟨true, ⟨(some 8), .mov (.t 1), [], none⟩⟩,
   ⟨true, ⟨(some 9), .bin .add (.t 8) (.c (.int .i64 (.ofNat 1))), [0], none⟩⟩,
   ⟨true, ⟨(some 6), .mov (.t 9), [1, 0, 1], none⟩⟩] [] 768)
 (.block 0 (.loop (.seq (.seq (.region [⟨true, ⟨(some 10), .mov (.t 6), [], none⟩⟩,
   ⟨true, ⟨(some 11), .mov (.t 2), [], none⟩⟩,
   ⟨true, ⟨(some 12), .bin .lss (.t 10) (.t 11), [0, 1], none⟩⟩] [] 3072)
 (.cond (.t 12)
  .skip
  (.exit 0)))
 (.seq (.block 1 (.seq (.region [⟨true, ⟨(some 15), .mov (.t 6), [], none⟩⟩,
   ⟨true, ⟨(some 7), .mov (.t 15), [0, 0], none⟩⟩] [] 36864)
 (.block 2 (.loop (.seq (.seq (.region [⟨true, ⟨(some 16), .mov (.t 7), [], none⟩⟩,
   ⟨true, ⟨(some 17), .mov (.t 1), [], none⟩⟩,
   ⟨true, ⟨(some 18), .bin .gtr (.t 16) (.t 17), [0, 1], none⟩⟩,
   ⟨true, ⟨(some 19), .mov (.t 18), [2], none⟩⟩,
   ⟨false, ⟨(some 20), .mov (.t 0), [3], (some (19, true))⟩⟩,
   ⟨false, ⟨(some 21), .mov (.t 7), [3], (some (19, true))⟩⟩,
   ⟨false, ⟨(some 22), .iaddr none 1 (.t 20) (.t 21), [4, 5, 3], (some (19, true))⟩⟩,
   ⟨false, ⟨(some 23), .load none (.t 22), [6, 3], (some (19, true))⟩⟩,
   ⟨false, ⟨(some 24), .mov (.t 0), [3], (some (19, true))⟩⟩,
   ⟨false, ⟨(some 25), .mov (.t 7), [3], (some (19, true))⟩⟩,
   ⟨false, ⟨(some 26), .bin .sub (.t 25) (.c (.int .i64 (.ofNat 1))), [9, 3], (some (19, true))⟩⟩,
   ⟨false, ⟨(some 27), .iaddr none 1 (.t 24) (.t 26), [8, 10, 3], (some (19, true))⟩⟩,
   ⟨false, ⟨(some 28), .load none (.t 27), [11, 3], (some (19, true))⟩⟩,
   ⟨false, ⟨(some 29), .call .heap (.f 91) [(.t 23), (.t 28)], [7, 12, 3, 3], (some (19, true))⟩⟩,
   ⟨true, ⟨(some 30), .pick (.t 19) (.t 29) (.c (.bool false)), [3, 13], none⟩⟩] [] 983040)
 (.cond (.t 30)
  .skip
  (.exit 2)))
 (.seq (.block 3 (.region [⟨true, ⟨(some 33), .mov (.t 0), [], none⟩⟩,
   ⟨true, ⟨(some 34), .mov (.t 7), [], none⟩⟩,
   ⟨true, ⟨(some 35), .mov (.t 0), [], none⟩⟩,
   ⟨true, ⟨(some 36), .mov (.t 7), [], none⟩⟩,
   ⟨true, ⟨(some 37), .bin .sub (.t 36) (.c (.int .i64 (.ofNat 1))), [3], none⟩⟩,
   ⟨true, ⟨(some 38), .mov (.t 0), [], none⟩⟩,
   ⟨true, ⟨(some 39), .mov (.t 7), [], none⟩⟩,
   ⟨true, ⟨(some 40), .bin .sub (.t 39) (.c (.int .i64 (.ofNat 1))), [6], none⟩⟩,
   ⟨true, ⟨(some 41), .iaddr none 1 (.t 38) (.t 40), [5, 7], none⟩⟩,
   ⟨true, ⟨(some 42), .load none (.t 41), [8], none⟩⟩,
   ⟨true, ⟨(some 43), .mov (.t 0), [], none⟩⟩,
   ⟨true, ⟨(some 44), .mov (.t 7), [], none⟩⟩,
   ⟨true, ⟨(some 45), .iaddr none 1 (.t 43) (.t 44), [10, 11], none⟩⟩,
   ⟨true, ⟨(some 46), .load none (.t 45), [12], none⟩⟩,
   ⟨true, ⟨(some 47), .iaddr none 1 (.t 33) (.t 34), [0, 1, 0, 1, 5, 6, 7, 8, 9, 13], none⟩⟩,
   ⟨false, ⟨none, .store 1 (.t 47) (.t 42), [14, 9, 0, 1, 5, 6, 7, 8, 9, 13], none⟩⟩,
   ⟨true, ⟨(some 48), .iaddr none 1 (.t 35) (.t 37), [2, 4, 0, 1, 2, 3, 4, 5, 6, 7, 8, 9, 10, 11, 12, 13, 14, 15], none⟩⟩,
   ⟨false, ⟨none, .store 1 (.t 48) (.t 46), [16, 13, 15, 0, 1, 2, 3, 4, 5, 6, 7, 8, 9, 10, 11, 12, 13, 14, 15], none⟩⟩] [] 562942437228544))
 (.region [⟨true, ⟨(some 31), .mov (.t 7), [], none⟩⟩,
   ⟨true, ⟨(some 32), .bin .sub (.t 31) (.c (.int .i64 (.ofNat 1))), [0], none⟩⟩,
   ⟨false, ⟨(some 7), .mov (.t 32), [1, 0, 1], none⟩⟩] [] 6442450944)))))))
 (.region [⟨true, ⟨(some 13), .mov (.t 6), [], none⟩⟩,
   ⟨true, ⟨(some 14), .bin .add (.t 13) (.c (.int .i64 (.ofNat 1))), [0], none⟩⟩,
   ⟨false, ⟨(some 6), .mov (.t 14), [1, 0, 1], none⟩⟩] [] 24704))))))⟩

-- slices.heapSortOrdered[int]
def f86 : FFn := ⟨56, [],
 (.seq (.region [⟨true, ⟨(some 11), .mov (.t 1), [], none⟩⟩,
   ⟨true, ⟨(some 6), .mov (.t 11), [0, 0], none⟩⟩] [] 2048)
 (.seq (.region [⟨true, ⟨(some 7), .mov (.c (.int .i64 (.ofNat 0))), [], none⟩⟩] [] 0)
 (.seq (.region [⟨true, ⟨(some 12), .mov (.t 2), [], none⟩⟩,
   ⟨true, ⟨(some 13), .mov (.t 1), [], none⟩⟩,
   ⟨true, ⟨(some 14), .bin .sub (.t 12) (.t 13), [0, 1], none⟩⟩,
   ⟨true, ⟨(some 8), .mov (.t 14), [2, 0, 1, 2], none⟩⟩] [] 28678)
 (.seq (.seq (.region [⟨true, ⟨(some 15), .mov (.t 8), [], none⟩⟩,
   ⟨true, ⟨(some 16), .bin .sub (.t 15) (.c (.int .i64 (.ofNat 1))), [0], none⟩⟩,
   ⟨true, ⟨(some 17), .bin .quo (.t 16) (.c (.int .i64 (.ofNat 2))), [1], none⟩⟩,
   ⟨true, ⟨(some 9), .mov (.t 17), [2, 0, 1, 2], none⟩⟩] [] 229376)
 (.block 0 (.loop (.seq (.seq (.region [⟨true, ⟨(some 18), .mov (.t 9), [], none⟩⟩,
   ⟨true, ⟨(some 19), .bin .geq (.t 18) (.c (.int .i64 (.ofNat 0))), [0], none⟩⟩] [] 262144)
 (.cond (.t 19)
  .skip
  (.exit 0)))
 (.seq (.block 1 (.region [⟨true, ⟨(some 22), .mov (.t 0), [], none⟩⟩,
   ⟨true, ⟨(some 23), .mov (.t 9), [], none⟩⟩,
   ⟨true, ⟨(some 24), .mov (.t 8), [], none⟩⟩,
   ⟨true, ⟨(some 25), .mov (.t 6), [], none⟩⟩,
   ⟨true, ⟨(some 26), .call .heap (.f 106) [(.t 22), (.t 23), (.t 24), (.t 25)], [0, 1, 2, 3], none⟩⟩] [] 130547712))
 (.region [⟨true, ⟨(some 20), .mov (.t 9), [], none⟩⟩,
   ⟨true, ⟨(some 21), .bin .sub (.t 20) (.c (.int .i64 (.ofNat 1))), [0], none⟩⟩,
   ⟨false, ⟨(some 9), .mov (.t 21), [1, 0, 1], none⟩⟩] [] 3145728))))))
 (.seq (.region [⟨true, ⟨(some 27), .mov (.t 8), [], none⟩⟩,
   ⟨true, ⟨(some 28), .bin .sub (.t 27) (.c (.int .i64 (.ofNat 1))), [0], none⟩⟩,
   ⟨true, ⟨(some 10), .mov (.t 28), [1, 0, 1], none⟩⟩] [] 402653952)
 (.block 2 (.loop (.seq (.seq (.region [⟨true, ⟨(some 29), .mov (.t 10), [], none⟩⟩,
   ⟨true, ⟨(some 30), .bin .geq (.t 29) (.c (.int .i64 (.ofNat 0))), [0], none⟩⟩] [] 536870912)
 (.cond (.t 30)
  .skip
  (.exit 2)))
 (.seq (.block 3 (.seq (.region [⟨true, ⟨(some 33), .mov (.t 0), [], none⟩⟩,
   ⟨true, ⟨(some 34), .mov (.t 6), [], none⟩⟩,
   ⟨true, ⟨(some 35), .mov (.t 0), [], none⟩⟩,
   ⟨true, ⟨(some 36), .mov (.t 6), [], none⟩⟩,
   ⟨true, ⟨(some 37), .mov (.t 10), [], none⟩⟩,
   ⟨true, ⟨(some 38), .bin .add (.t 36) (.t 37), [3, 4], none⟩⟩,
   ⟨true, ⟨(some 39), .mov (.t 0), [], none⟩⟩,
   ⟨true, ⟨(some 40), .mov (.t 6), [], none⟩⟩,
   ⟨true, ⟨(some 41), .mov (.t 10), [], none⟩⟩,
   ⟨true, ⟨(some 42), .bin .add (.t 40) (.t 41), [7, 8], none⟩⟩,
   ⟨true, ⟨(some 43), .iaddr none 1 (.t 39) (.t 42), [6, 9], none⟩⟩,
   ⟨true, ⟨(some 44), .load none (.t 43), [10], none⟩⟩,
   ⟨true, ⟨(some 45), .mov (.t 0), [], none⟩⟩,
   ⟨true, ⟨(some 46), .mov (.t 6), [], none⟩⟩,
   ⟨true, ⟨(some 47), .iaddr none 1 (.t 45) (.t 46), [12, 13], none⟩⟩,
   ⟨true, ⟨(some 48), .load none (.t 47), [14], none⟩⟩,
   ⟨true, ⟨(some 49), .iaddr none 1 (.t 33) (.t 34), [0, 1, 0, 1, 6, 7, 8, 9, 10, 11, 15], none⟩⟩,
   ⟨false, ⟨none, .store 1 (.t 49) (.t 44), [16, 11, 0, 1, 6, 7, 8, 9, 10, 11, 15], none⟩⟩,
   ⟨true, ⟨(some 50), .iaddr none 1 (.t 35) (.t 38), [2, 5, 0, 1, 2, 3, 4, 5, 6, 7, 8, 9, 10, 11, 12, 13, 14, 15, 16, 17], none⟩⟩,
   ⟨false, ⟨none, .store 1 (.t 50) (.t 48), [18, 15, 17, 0, 1, 2, 3, 4, 5, 6, 7, 8, 9, 10, 11, 12, 13, 14, 15, 16, 17], none⟩⟩] [] 2251792297492480)
 (.region [⟨true, ⟨(some 51), .mov (.t 0), [], none⟩⟩,
   ⟨true, ⟨(some 52), .mov (.t 7), [], none⟩⟩,
   ⟨true, ⟨(some 53), .mov (.t 10), [], none⟩⟩,
   ⟨true, ⟨(some 54), .mov (.t 6), [], none⟩⟩,
   ⟨true, ⟨(some 55), .call .heap (.f 106) [(.t 51), (.t 52), (.t 53), (.t 54)], [0, 1, 2, 3], none⟩⟩] [] 69805794224242688)))
 (.region [⟨true, ⟨(some 31), .mov (.t 10), [], none⟩⟩,
   ⟨true, ⟨(some 32), .bin .sub (.t 31) (.c (.int .i64 (.ofNat 1))), [0], none⟩⟩,
   ⟨false, ⟨(some 10), .mov (.t 32), [1, 0, 1], none⟩⟩] [] 6442450944))))))))))⟩

-- slices.breakPatternsOrdered[int]
def f87 : FFn := ⟨65, [],
 (.seq (.region [⟨true, ⟨(some 11), .mov (.t 2), [], none⟩⟩,
   ⟨true, ⟨(some 12), .mov (.t 1), [], none⟩⟩,
   ⟨true, ⟨(some 13), .bin .sub (.t 11) (.t 12), [0, 1], none⟩⟩,
   ⟨true, ⟨(some 6), .mov (.t 13), [2, 0, 1, 2], none⟩⟩] [] 14340)
 (.seq (.region [⟨true, ⟨(some 14), .mov (.t 6), [], none⟩⟩,
   ⟨true, ⟨(some 15), .bin .geq (.t 14) (.c (.int .i64 (.ofNat 8))), [0], none⟩⟩] [] 16384)
 (.cond (.t 15)
  (.seq (.region [⟨true, ⟨(some 16), .mov (.t 6), [], none⟩⟩,
    ⟨true, ⟨(some 17), .conv .u64 (.t 16), [0], none⟩⟩,
    ⟨true, ⟨(some 7), .alloc .dyn (.int .u64 (.ofNat 0)), [], none⟩⟩,
    ⟨false, ⟨none, .store 1 (.t 7) (.t 17), [2, 1, 0, 1, 2], none⟩⟩] [] 229376)
  (.seq (.region [⟨true, ⟨(some 18), .mov (.t 6), [], none⟩⟩,
    ⟨true, ⟨(some 19), .call .heap (.f 107) [(.t 18)], [0], none⟩⟩,
    ⟨true, ⟨(some 8), .mov (.t 19), [1, 1, 0, 1], none⟩⟩] [] 786432)
  (.seq (.region [⟨true, ⟨(some 20), .mov (.t 1), [], none⟩⟩,
    ⟨true, ⟨(some 21), .mov (.t 6), [], none⟩⟩,
    ⟨true, ⟨(some 22), .bin .quo (.t 21) (.c (.int .i64 (.ofNat 4))), [1], none⟩⟩,
    ⟨true, ⟨(some 23), .bin .mul (.t 22) (.c (.int .i64 (.ofNat 2))), [2], none⟩⟩,
    ⟨true, ⟨(some 24), .bin .add (.t 20) (.t 23), [0, 3], none⟩⟩,
    ⟨true, ⟨(some 25), .bin .sub (.t 24) (.c (.int .i64 (.ofNat 1))), [4], none⟩⟩,
    ⟨true, ⟨(some 9), .mov (.t 25), [5, 0, 1, 2, 3, 4, 5], none⟩⟩] [] 66060288)
  (.block 0 (.loop (.seq (.seq (.region [⟨true, ⟨(some 26), .mov (.t 9), [], none⟩⟩,
    ⟨true, ⟨(some 27), .mov (.t 1), [], none⟩⟩,
    ⟨true, ⟨(some 28), .mov (.t 6), [], none⟩⟩,
    ⟨true, ⟨(some 29), .bin .quo (.t 28) (.c (.int .i64 (.ofNat 4))), [2], none⟩⟩,
    ⟨true, ⟨(some 30), .bin .mul (.t 29) (.c (.int .i64 (.ofNat 2))), [3], none⟩⟩,
    ⟨true, ⟨(some 31), .bin .add (.t 27) (.t 30), [1, 4], none⟩⟩,
    ⟨true, ⟨(some 32), .bin .add (.t 31) (.c (.int .i64 (.ofNat 1))), [5], none⟩⟩,
    ⟨true, ⟨(some 33), .bin .leq (.t 26) (.t 32), [0, 6], none⟩⟩] [] 8522825728)
  (.cond (.t 33)
   .skip
   (.exit 0)))
  (.seq (.block 1 (.seq (.region [⟨true, ⟨(some 36), .call .heap (.f 108) [(.t 7)], [], none⟩⟩,
    ⟨true, ⟨(some 37), .mov (.t 8), [], none⟩⟩,
    ⟨true, ⟨(some 38), .bin .sub (.t 37) (.c (.int .u64 (.ofNat 1))), [1], none⟩⟩,
    ⟨true, ⟨(some 39), .bin .and (.t 36) (.t 38), [0, 2], none⟩⟩,
    ⟨true, ⟨(some 40), .conv .i64 (.t 39), [3], none⟩⟩,
    ⟨true, ⟨(some 10), .mov (.t 40), [4, 0, 0, 1, 2, 3, 4], none⟩⟩] [] 2138893713408)
  (.seq (.seq (.region [⟨true, ⟨(some 41), .mov (.t 10), [], none⟩⟩,
    ⟨true, ⟨(some 42), .mov (.t 6), [], none⟩⟩,
    ⟨true, ⟨(some 43), .bin .geq (.t 41) (.t 42), [0, 1], none⟩⟩] [] 6597069766656)
  (.cond (.t 43)
   (.region [⟨true, ⟨(some 44), .mov (.t 10), [], none⟩⟩,
     ⟨true, ⟨(some 45), .mov (.t 6), [], none⟩⟩,
     ⟨true, ⟨(some 46), .bin .sub (.t 44) (.t 45), [0, 1], none⟩⟩,
     ⟨false, ⟨(some 10), .mov (.t 46), [2, 0, 1, 2], none⟩⟩] [] 131941395333120)
   .skip))
  (.region [⟨true, ⟨(some 47), .mov (.t 0), [], none⟩⟩,
    ⟨true, ⟨(some 48), .mov (.t 9), [], none⟩⟩,
    ⟨true, ⟨(some 49), .mov (.t 0), [], none⟩⟩,
    ⟨true, ⟨(some 50), .mov (.t 1), [], none⟩⟩,
    ⟨true, ⟨(some 51), .mov (.t 10), [], none⟩⟩,
    ⟨true, ⟨(some 52), .bin .add (.t 50) (.t 51), [3, 4], none⟩⟩,
    ⟨true, ⟨(some 53), .mov (.t 0), [], none⟩⟩,
    ⟨true, ⟨(some 54), .mov (.t 1), [], none⟩⟩,
    ⟨true, ⟨(some 55), .mov (.t 10), [], none⟩⟩,
    ⟨true, ⟨(some 56), .bin .add (.t 54) (.t 55), [7, 8], none⟩⟩,
    ⟨true, ⟨(some 57), .iaddr none 1 (.t 53) (.t 56), [6, 9], none⟩⟩,
    ⟨true, ⟨(some 58), .load none (.t 57), [10], none⟩⟩,
    ⟨true, ⟨(some 59), .mov (.t 0), [], none⟩⟩,
    ⟨true, ⟨(some 60), .mov (.t 9), [], none⟩⟩,
    ⟨true, ⟨(some 61), .iaddr none 1 (.t 59) (.t 60), [12, 13], none⟩⟩,
    ⟨true, ⟨(some 62), .load none (.t 61), [14], none⟩⟩,
    ⟨true, ⟨(some 63), .iaddr none 1 (.t 47) (.t 48), [0, 1, 0, 1, 6, 7, 8, 9, 10, 11, 15], none⟩⟩,
    ⟨false, ⟨none, .store 1 (.t 63) (.t 58), [16, 11, 0, 1, 6, 7, 8, 9, 10, 11, 15], none⟩⟩,
    ⟨true, ⟨(some 64), .iaddr none 1 (.t 49) (.t 52), [2, 5, 0, 1, 2, 3, 4, 5, 6, 7, 8, 9, 10, 11, 12, 13, 14, 15, 16, 17], none⟩⟩,
    ⟨false, ⟨none, .store 1 (.t 64) (.t 62), [18, 15, 17, 0, 1, 2, 3, 4, 5, 6, 7, 8, 9, 10, 11, 12, 13, 14, 15, 16, 17], none⟩⟩] [] 36893356206023771136))))
  (.region [⟨true, ⟨(some 34), .mov (.t 9), [], none⟩⟩,
    ⟨true, ⟨(some 35), .bin .add (.t 34) (.c (.int .i64 (.ofNat 1))), [0], none⟩⟩,
    ⟨false, ⟨(some 9), .mov (.t 35), [1, 0, 1], none⟩⟩] [] 51539607552))))))))
  .skip)))⟩

-- slices.choosePivotOrdered[int]
def f88 : FFn := ⟨57, [.tmp 6, .tmp 7],
 (.seq (.region [⟨true, ⟨(some 6), .mov (.c (.int .i64 (.ofNat 0))), [], none⟩⟩,
   ⟨true, ⟨(some 7), .mov (.c (.int .i64 (.ofNat 0))), [0], none⟩⟩] [] 192)
 (.seq (.region [⟨true, ⟨(some 13), .mov (.t 2), [], none⟩⟩,
   ⟨true, ⟨(some 14), .mov (.t 1), [], none⟩⟩,
   ⟨true, ⟨(some 15), .bin .sub (.t 13) (.t 14), [0, 1], none⟩⟩,
   ⟨true, ⟨(some 8), .mov (.t 15), [2, 0, 1, 2], none⟩⟩] [] 57348)
 (.seq (.region [⟨true, ⟨(some 9), .alloc .dyn (.int .i64 (.ofNat 0)), [], none⟩⟩] [] 0)
 (.seq (.region [⟨true, ⟨(some 16), .mov (.t 1), [], none⟩⟩,
   ⟨true, ⟨(some 17), .mov (.t 8), [], none⟩⟩,
   ⟨true, ⟨(some 18), .bin .quo (.t 17) (.c (.int .i64 (.ofNat 4))), [1], none⟩⟩,
   ⟨true, ⟨(some 19), .bin .mul (.t 18) (.c (.int .i64 (.ofNat 1))), [2], none⟩⟩,
   ⟨true, ⟨(some 20), .bin .add (.t 16) (.t 19), [0, 3], none⟩⟩,
   ⟨true, ⟨(some 10), .mov (.t 20), [4, 0, 1, 2, 3, 4], none⟩⟩] [] 2031616)
 (.seq (.region [⟨true, ⟨(some 21), .mov (.t 1), [], none⟩⟩,
   ⟨true, ⟨(some 22), .mov (.t 8), [], none⟩⟩,
   ⟨true, ⟨(some 23), .bin .quo (.t 22) (.c (.int .i64 (.ofNat 4))), [1], none⟩⟩,
   ⟨true, ⟨(some 24), .bin .mul (.t 23) (.c (.int .i64 (.ofNat 2))), [2], none⟩⟩,
   ⟨true, ⟨(some 25), .bin .add (.t 21) (.t 24), [0, 3], none⟩⟩,
   ⟨true, ⟨(some 11), .mov (.t 25), [4, 0, 1, 2, 3, 4], none⟩⟩] [] 65011712)
 (.seq (.region [⟨true, ⟨(some 26), .mov (.t 1), [], none⟩⟩,
   ⟨true, ⟨(some 27), .mov (.t 8), [], none⟩⟩,
   ⟨true, ⟨(some 28), .bin .quo (.t 27) (.c (.int .i64 (.ofNat 4))), [1], none⟩⟩,
   ⟨true, ⟨(some 29), .bin .mul (.t 28) (.c (.int .i64 (.ofNat 3))), [2], none⟩⟩,
   ⟨true, ⟨(some 30), .bin .add (.t 26) (.t 29), [0, 3], none⟩⟩,
   ⟨true, ⟨(some 12), .mov (.t 30), [4, 0, 1, 2, 3, 4], none⟩⟩] [] 2080374786)
 (.seq (.seq (.region [⟨true, ⟨(some 31), .mov (.t 8), [], none⟩⟩,
   ⟨true, ⟨(some 32), .bin .geq (.t 31) (.c (.int .i64 (.ofNat 8))), [0], none⟩⟩] [] 2147483648)
 (.cond (.t 32)
  (.seq (.seq (.region [⟨true, ⟨(some 33), .mov (.t 8), [], none⟩⟩,
    ⟨true, ⟨(some 34), .bin .geq (.t 33) (.c (.int .i64 (.ofNat 50))), [0], none⟩⟩] [] 12884902144)
  (.cond (.t 34)
   (.seq (.region [⟨true, ⟨(some 35), .mov (.t 0), [], none⟩⟩,
     ⟨true, ⟨(some 36), .mov (.t 10), [], none⟩⟩,
     ⟨true, ⟨(some 37), .call .heap (.f 109) [(.t 35), (.t 36), (.t 9)], [0, 1], none⟩⟩,
     ⟨false, ⟨(some 10), .mov (.t 37), [2, 2, 0, 1, 2], none⟩⟩] [] 257698037760)
   (.seq (.region [⟨true, ⟨(some 38), .mov (.t 0), [], none⟩⟩,
     ⟨true, ⟨(some 39), .mov (.t 11), [], none⟩⟩,
     ⟨true, ⟨(some 40), .call .heap (.f 109) [(.t 38), (.t 39), (.t 9)], [0, 1], none⟩⟩,
     ⟨false, ⟨(some 11), .mov (.t 40), [2, 2, 0, 1, 2], none⟩⟩] [] 1924145348608)
   (.region [⟨true, ⟨(some 41), .mov (.t 0), [], none⟩⟩,
     ⟨true, ⟨(some 42), .mov (.t 12), [], none⟩⟩,
     ⟨true, ⟨(some 43), .call .heap (.f 109) [(.t 41), (.t 42), (.t 9)], [0, 1], none⟩⟩,
     ⟨false, ⟨(some 12), .mov (.t 43), [2, 2, 0, 1, 2], none⟩⟩] [] 15393162788864)))
   .skip))
  (.region [⟨true, ⟨(some 44), .mov (.t 0), [], none⟩⟩,
    ⟨true, ⟨(some 45), .mov (.t 10), [], none⟩⟩,
    ⟨true, ⟨(some 46), .mov (.t 11), [], none⟩⟩,
    ⟨true, ⟨(some 47), .mov (.t 12), [], none⟩⟩,
    ⟨true, ⟨(some 48), .call .heap (.f 110) [(.t 44), (.t 45), (.t 46), (.t 47), (.t 9)], [0, 1, 2, 3], none⟩⟩,
    ⟨false, ⟨(some 11), .mov (.t 48), [4, 4, 0, 1, 2, 3, 4], none⟩⟩] [] 545374947251201))
  .skip))
 (.seq (.region [⟨true, ⟨(some 49), .load none (.t 9), [], none⟩⟩] [] 4294973185)
 (.block 0 (.seq (.region [⟨true, ⟨(some 52), .bin .eql (.t 49) (.c (.int .i64 (.ofNat 0))), [], none⟩⟩,
   ⟨true, ⟨(some 51), .mov (.t 52), [0], none⟩⟩] [] 4503599627370496)
 (.cond (.t 51)
  (.seq (.region [⟨true, ⟨(some 53), .mov (.t 11), [], none⟩⟩,
    ⟨true, ⟨(some 6), .mov (.t 53), [0, 0], none⟩⟩,
    ⟨true, ⟨(some 7), .mov (.c (.int .i64 (.ofNat 1))), [1, 0, 1], none⟩⟩] [] 11821949021849600)
  .ret)
  (.seq (.region [⟨true, ⟨(some 55), .bin .eql (.t 49) (.c (.int .i64 (.ofNat 12))), [], none⟩⟩,
    ⟨true, ⟨(some 54), .mov (.t 55), [0], none⟩⟩] [] 38843546786070528)
  (.cond (.t 54)
   (.seq (.region [⟨true, ⟨(some 56), .mov (.t 11), [], none⟩⟩,
     ⟨true, ⟨(some 6), .mov (.t 56), [0, 0], none⟩⟩,
     ⟨true, ⟨(some 7), .mov (.c (.int .i64 (.ofNat 2))), [1, 0, 1], none⟩⟩] [] 90071992547411968)
   .ret)
   (.seq (.region [⟨true, ⟨(some 50), .mov (.t 11), [], none⟩⟩,
     ⟨true, ⟨(some 6), .mov (.t 50), [0, 0], none⟩⟩,
     ⟨true, ⟨(some 7), .mov (.c (.int .i64 (.ofNat 0))), [1, 0, 1], none⟩⟩] [] 19140298416326656)
   .ret))))))))))))))⟩

-- slices.reverseRangeOrdered[int]
def f89 : FFn := ⟨32, [],
 (.seq (.region [⟨true, ⟨(some 8), .mov (.t 1), [], none⟩⟩,
   ⟨true, ⟨(some 6), .mov (.t 8), [0, 0], none⟩⟩] [] 258)
 (.seq (.region [⟨true, ⟨(some 9), .mov (.t 2), [], none⟩⟩,
   ⟨true, ⟨(some 10), .bin .sub (.t 9) (.c (.int .i64 (.ofNat 1))), [0], none⟩⟩,
   ⟨true, ⟨(some 7), .mov (.t 10), [1, 0, 1], none⟩⟩] [] 1540)
 (.block 0 (.loop (.seq (.seq (.region [⟨true, ⟨(some 11), .mov (.t 6), [], none⟩⟩,
   ⟨true, ⟨(some 12), .mov (.t 7), [], none⟩⟩,
   ⟨true, ⟨(some 13), .bin .lss (.t 11) (.t 12), [0, 1], none⟩⟩] [] 6144)
 (.cond (.t 13)
  .skip
  (.exit 0)))
 (.block 1 (.seq (.region [⟨true, ⟨(some 14), .mov (.t 0), [], none⟩⟩,
   ⟨true, ⟨(some 15), .mov (.t 6), [], none⟩⟩,
   ⟨true, ⟨(some 16), .mov (.t 0), [], none⟩⟩,
   ⟨true, ⟨(some 17), .mov (.t 7), [], none⟩⟩,
   ⟨true, ⟨(some 18), .mov (.t 0), [], none⟩⟩,
   ⟨true, ⟨(some 19), .mov (.t 7), [], none⟩⟩,
   ⟨true, ⟨(some 20), .iaddr none 1 (.t 18) (.t 19), [4, 5], none⟩⟩,
   ⟨true, ⟨(some 21), .load none (.t 20), [6], none⟩⟩,
   ⟨true, ⟨(some 22), .mov (.t 0), [], none⟩⟩,
   ⟨true, ⟨(some 23), .mov (.t 6), [], none⟩⟩,
   ⟨true, ⟨(some 24), .iaddr none 1 (.t 22) (.t 23), [8, 9], none⟩⟩,
   ⟨true, ⟨(some 25), .load none (.t 24), [10], none⟩⟩,
   ⟨true, ⟨(some 26), .iaddr none 1 (.t 14) (.t 15), [0, 1, 0, 1, 4, 5, 6, 7, 11], none⟩⟩,
   ⟨false, ⟨none, .store 1 (.t 26) (.t 21), [12, 7, 0, 1, 4, 5, 6, 7, 11], none⟩⟩,
   ⟨true, ⟨(some 27), .iaddr none 1 (.t 16) (.t 17), [2, 3, 0, 1, 2, 3, 4, 5, 6, 7, 8, 9, 10, 11, 12, 13], none⟩⟩,
   ⟨false, ⟨none, .store 1 (.t 27) (.t 25), [14, 11, 13, 0, 1, 2, 3, 4, 5, 6, 7, 8, 9, 10, 11, 12, 13], none⟩⟩] [] 268427264)
 (.seq (.region [⟨true, ⟨(some 28), .mov (.t 6), [], none⟩⟩,
   ⟨true, ⟨(some 29), .bin .add (.t 28) (.c (.int .i64 (.ofNat 1))), [0], none⟩⟩,
   ⟨false, ⟨(some 6), .mov (.t 29), [1, 0, 1], none⟩⟩] [] 805306368)
 (.region [⟨true, ⟨(some 30), .mov (.t 7), [], none⟩⟩,
   ⟨true, ⟨(some 31), .bin .sub (.t 30) (.c (.int .i64 (.ofNat 1))), [0], none⟩⟩,
   ⟨false, ⟨(some 7), .mov (.t 31), [1, 0, 1], none⟩⟩] [] 3221225472)))))))))⟩

-- slices.partialInsertionSortOrdered[int]
def f90 : FFn := ⟨133, [.tmp 6],
 (.seq (.region [⟨true, ⟨(some 6), .mov (.c (.bool false)), [], none⟩⟩] [] 64)
 (.seq (.region [⟨true, ⟨(some 11), .mov (.t 1), [], none⟩⟩,
   ⟨true, ⟨(some 12), .bin .add (.t 11) (.c (.int .i64 (.ofNat 1))), [0], none⟩⟩,
   ⟨true, ⟨(some 7), .mov (.t 12), [1, 0, 1], none⟩⟩] [] 6144)
 (.seq (.seq (.region [⟨true, ⟨(some 8), .mov (.c (.int .i64 (.ofNat 0))), [], none⟩⟩] [] 0)
 (.block 0 (.loop (.seq (.seq (.region [⟨true, ⟨(some 13), .mov (.t 8), [], none⟩⟩,
   ⟨true, ⟨(some 14), .bin .lss (.t 13) (.c (.int .i64 (.ofNat 5))), [0], none⟩⟩] [] 8192)
 (.cond (.t 14)
  .skip
  (.exit 0)))
 (.seq (.block 1 (.seq (.block 2 (.loop (.seq (.seq (.region [⟨true, ⟨(some 17), .mov (.t 7), [], none⟩⟩,
   ⟨true, ⟨(some 18), .mov (.t 2), [], none⟩⟩,
   ⟨true, ⟨(some 19), .bin .lss (.t 17) (.t 18), [0, 1], none⟩⟩,
   ⟨true, ⟨(some 20), .mov (.t 19), [2], none⟩⟩,
   ⟨false, ⟨(some 21), .mov (.t 0), [3], (some (20, true))⟩⟩,
   ⟨false, ⟨(some 22), .mov (.t 7), [3], (some (20, true))⟩⟩,
   ⟨false, ⟨(some 23), .iaddr none 1 (.t 21) (.t 22), [4, 5, 3], (some (20, true))⟩⟩,
   ⟨false, ⟨(some 24), .load none (.t 23), [6, 3], (some (20, true))⟩⟩,
   ⟨false, ⟨(some 25), .mov (.t 0), [3], (some (20, true))⟩⟩,
   ⟨false, ⟨(some 26), .mov (.t 7), [3], (some (20, true))⟩⟩,
   ⟨false, ⟨(some 27), .bin .sub (.t 26) (.c (.int .i64 (.ofNat 1))), [9, 3], (some (20, true))⟩⟩,
   ⟨false, ⟨(some 28), .iaddr none 1 (.t 25) (.t 27), [8, 10, 3], (some (20, true))⟩⟩,
   ⟨false, ⟨(some 29), .load none (.t 28), [11, 3], (some (20, true))⟩⟩,
   ⟨false, ⟨(some 30), .call .heap (.f 91) [(.t 24), (.t 29)], [7, 12, 3, 3], (some (20, true))⟩⟩,
   ⟨false, ⟨(some 31), .un .not (.t 30), [13, 3], (some (20, true))⟩⟩,
   ⟨true, ⟨(some 32), .pick (.t 20) (.t 31) (.c (.bool false)), [3, 14], none⟩⟩] [] 1982464)
 (.cond (.t 32)
  .skip
  (.exit 2)))
 (.block 3 (.region [⟨true, ⟨(some 33), .mov (.t 7), [], none⟩⟩,
   ⟨true, ⟨(some 34), .bin .add (.t 33) (.c (.int .i64 (.ofNat 1))), [0], none⟩⟩,
   ⟨false, ⟨(some 7), .mov (.t 34), [1, 0, 1], none⟩⟩] [] 30064771072)))))
 (.seq (.seq (.region [⟨true, ⟨(some 35), .mov (.t 7), [], none⟩⟩,
   ⟨true, ⟨(some 36), .mov (.t 2), [], none⟩⟩,
   ⟨true, ⟨(some 37), .bin .eql (.t 35) (.t 36), [0, 1], none⟩⟩] [] 103079231488)
 (.cond (.t 37)
  (.seq (.region [⟨true, ⟨(some 6), .mov (.c (.bool true)), [], none⟩⟩] [] 141731824007)
  .ret)
  .skip))
 (.seq (.seq (.region [⟨true, ⟨(some 38), .mov (.t 2), [], none⟩⟩,
   ⟨true, ⟨(some 39), .mov (.t 1), [], none⟩⟩,
   ⟨true, ⟨(some 40), .bin .sub (.t 38) (.t 39), [0, 1], none⟩⟩,
   ⟨true, ⟨(some 41), .bin .lss (.t 40) (.c (.int .i64 (.ofNat 50))), [2], none⟩⟩] [] 2061584302144)
 (.cond (.t 41)
  (.seq (.region [⟨true, ⟨(some 6), .mov (.c (.bool false)), [], none⟩⟩] [] 2203316126087)
  .ret)
  .skip))
 (.seq (.region [⟨true, ⟨(some 42), .mov (.t 0), [], none⟩⟩,
   ⟨true, ⟨(some 43), .mov (.t 7), [], none⟩⟩,
   ⟨true, ⟨(some 44), .mov (.t 0), [], none⟩⟩,
   ⟨true, ⟨(some 45), .mov (.t 7), [], none⟩⟩,
   ⟨true, ⟨(some 46), .bin .sub (.t 45) (.c (.int .i64 (.ofNat 1))), [3], none⟩⟩,
   ⟨true, ⟨(some 47), .mov (.t 0), [], none⟩⟩,
   ⟨true, ⟨(some 48), .mov (.t 7), [], none⟩⟩,
   ⟨true, ⟨(some 49), .bin .sub (.t 48) (.c (.int .i64 (.ofNat 1))), [6], none⟩⟩,
   ⟨true, ⟨(some 50), .iaddr none 1 (.t 47) (.t 49), [5, 7], none⟩⟩,
   ⟨true, ⟨(some 51), .load none (.t 50), [8], none⟩⟩,
   ⟨true, ⟨(some 52), .mov (.t 0), [], none⟩⟩,
   ⟨true, ⟨(some 53), .mov (.t 7), [], none⟩⟩,
   ⟨true, ⟨(some 54), .iaddr none 1 (.t 52) (.t 53), [10, 11], none⟩⟩,
   ⟨true, ⟨(some 55), .load none (.t 54), [12], none⟩⟩,
   ⟨true, ⟨(some 56), .iaddr none 1 (.t 42) (.t 43), [0, 1, 0, 1, 5, 6, 7, 8, 9, 13], none⟩⟩,
   ⟨false, ⟨none, .store 1 (.t 56) (.t 51), [14, 9, 0, 1, 5, 6, 7, 8, 9, 13], none⟩⟩,
   ⟨true, ⟨(some 57), .iaddr none 1 (.t 44) (.t 46), [2, 4, 0, 1, 2, 3, 4, 5, 6, 7, 8, 9, 10, 11, 12, 13, 14, 15], none⟩⟩,
   ⟨false, ⟨none, .store 1 (.t 57) (.t 55), [16, 13, 15, 0, 1, 2, 3, 4, 5, 6, 7, 8, 9, 10, 11, 12, 13, 14, 15], none⟩⟩] [] 288228177128456256)
 (.seq (.seq (.region [⟨true, ⟨(some 58), .mov (.t 7), [], none⟩⟩,
   ⟨true, ⟨(some 59), .mov (.t 1), [], none⟩⟩,
   ⟨true, ⟨(some 60), .bin .sub (.t 58) (.t 59), [0, 1], none⟩⟩,
   ⟨true, ⟨(some 61), .bin .geq (.t 60) (.c (.int .i64 (.ofNat 2))), [2], none⟩⟩] [] 2017612633061982208)
 (.cond (.t 61)
  (.seq (.region [⟨true, ⟨(some 62), .mov (.t 7), [], none⟩⟩,
    ⟨true, ⟨(some 63), .bin .sub (.t 62) (.c (.int .i64 (.ofNat 1))), [0], none⟩⟩,
    ⟨true, ⟨(some 9), .mov (.t 63), [1, 0, 1], none⟩⟩] [] 16140901064495857664)
  (.block 4 (.loop (.seq (.seq (.region [⟨true, ⟨(some 64), .mov (.t 9), [], none⟩⟩,
    ⟨true, ⟨(some 65), .bin .geq (.t 64) (.c (.int .i64 (.ofNat 1))), [0], none⟩⟩] [] 18446744073709551616)
  (.cond (.t 65)
   .skip
   (.exit 4)))
  (.seq (.block 5 (.seq (.seq (.region [⟨true, ⟨(some 68), .mov (.t 0), [], none⟩⟩,
    ⟨true, ⟨(some 69), .mov (.t 9), [], none⟩⟩,
    ⟨true, ⟨(some 70), .iaddr none 1 (.t 68) (.t 69), [0, 1], none⟩⟩,
    ⟨true, ⟨(some 71), .load none (.t 70), [2], none⟩⟩,
    ⟨true, ⟨(some 72), .mov (.t 0), [], none⟩⟩,
    ⟨true, ⟨(some 73), .mov (.t 9), [], none⟩⟩,
    ⟨true, ⟨(some 74), .bin .sub (.t 73) (.c (.int .i64 (.ofNat 1))), [5], none⟩⟩,
    ⟨true, ⟨(some 75), .iaddr none 1 (.t 72) (.t 74), [4, 6], none⟩⟩,
    ⟨true, ⟨(some 76), .load none (.t 75), [7], none⟩⟩,
    ⟨true, ⟨(some 77), .call .heap (.f 91) [(.t 71), (.t 76)], [3, 8], none⟩⟩,
    ⟨true, ⟨(some 78), .un .not (.t 77), [9], none⟩⟩] [] 301973200486625359953920)
  (.cond (.t 78)
   (.exit 4)
   .skip))
  (.region [⟨true, ⟨(some 79), .mov (.t 0), [], none⟩⟩,
    ⟨true, ⟨(some 80), .mov (.t 9), [], none⟩⟩,
    ⟨true, ⟨(some 81), .mov (.t 0), [], none⟩⟩,
    ⟨true, ⟨(some 82), .mov (.t 9), [], none⟩⟩,
    ⟨true, ⟨(some 83), .bin .sub (.t 82) (.c (.int .i64 (.ofNat 1))), [3], none⟩⟩,
    ⟨true, ⟨(some 84), .mov (.t 0), [], none⟩⟩,
    ⟨true, ⟨(some 85), .mov (.t 9), [], none⟩⟩,
    ⟨true, ⟨(some 86), .bin .sub (.t 85) (.c (.int .i64 (.ofNat 1))), [6], none⟩⟩,
    ⟨true, ⟨(some 87), .iaddr none 1 (.t 84) (.t 86), [5, 7], none⟩⟩,
    ⟨true, ⟨(some 88), .load none (.t 87), [8], none⟩⟩,
    ⟨true, ⟨(some 89), .mov (.t 0), [], none⟩⟩,
    ⟨true, ⟨(some 90), .mov (.t 9), [], none⟩⟩,
    ⟨true, ⟨(some 91), .iaddr none 1 (.t 89) (.t 90), [10, 11], none⟩⟩,
    ⟨true, ⟨(some 92), .load none (.t 91), [12], none⟩⟩,
    ⟨true, ⟨(some 93), .iaddr none 1 (.t 79) (.t 80), [0, 1, 0, 1, 5, 6, 7, 8, 9, 13], none⟩⟩,
    ⟨false, ⟨none, .store 1 (.t 93) (.t 88), [14, 9, 0, 1, 5, 6, 7, 8, 9, 13], none⟩⟩,
    ⟨true, ⟨(some 94), .iaddr none 1 (.t 81) (.t 83), [2, 4, 0, 1, 2, 3, 4, 5, 6, 7, 8, 9, 10, 11, 12, 13, 14, 15], none⟩⟩,
    ⟨false, ⟨none, .store 1 (.t 94) (.t 92), [16, 13, 15, 0, 1, 2, 3, 4, 5, 6, 7, 8, 9, 10, 11, 12, 13, 14, 15], none⟩⟩] [] 39613779025677265139478298624)))
  (.region [⟨true, ⟨(some 66), .mov (.t 9), [], none⟩⟩,
    ⟨true, ⟨(some 67), .bin .sub (.t 66) (.c (.int .i64 (.ofNat 1))), [0], none⟩⟩,
    ⟨false, ⟨(some 9), .mov (.t 67), [1, 0, 1], none⟩⟩] [] 221360928884514619392))))))
  .skip))
 (.seq (.region [⟨true, ⟨(some 95), .mov (.t 2), [], none⟩⟩,
   ⟨true, ⟨(some 96), .mov (.t 7), [], none⟩⟩,
   ⟨true, ⟨(some 97), .bin .sub (.t 95) (.t 96), [0, 1], none⟩⟩,
   ⟨true, ⟨(some 98), .bin .geq (.t 97) (.c (.int .i64 (.ofNat 2))), [2], none⟩⟩] [] 277298568802231024586617520640)
 (.cond (.t 98)
  (.seq (.region [⟨true, ⟨(some 99), .mov (.t 7), [], none⟩⟩,
    ⟨true, ⟨(some 100), .bin .add (.t 99) (.c (.int .i64 (.ofNat 1))), [0], none⟩⟩,
    ⟨true, ⟨(some 10), .mov (.t 100), [1, 0, 1], none⟩⟩] [] 2218388550399401452619230609408)
  (.block 6 (.loop (.seq (.seq (.region [⟨true, ⟨(some 101), .mov (.t 10), [], none⟩⟩,
    ⟨true, ⟨(some 102), .mov (.t 2), [], none⟩⟩,
    ⟨true, ⟨(some 103), .bin .lss (.t 101) (.t 102), [0, 1], none⟩⟩] [] 7605903601369376408980219232256)
  (.cond (.t 103)
   .skip
   (.exit 6)))
  (.seq (.block 7 (.seq (.seq (.region [⟨true, ⟨(some 106), .mov (.t 0), [], none⟩⟩,
    ⟨true, ⟨(some 107), .mov (.t 10), [], none⟩⟩,
    ⟨true, ⟨(some 108), .iaddr none 1 (.t 106) (.t 107), [0, 1], none⟩⟩,
    ⟨true, ⟨(some 109), .load none (.t 108), [2], none⟩⟩,
    ⟨true, ⟨(some 110), .mov (.t 0), [], none⟩⟩,
    ⟨true, ⟨(some 111), .mov (.t 10), [], none⟩⟩,
    ⟨true, ⟨(some 112), .bin .sub (.t 111) (.c (.int .i64 (.ofNat 1))), [5], none⟩⟩,
    ⟨true, ⟨(some 113), .iaddr none 1 (.t 110) (.t 112), [4, 6], none⟩⟩,
    ⟨true, ⟨(some 114), .load none (.t 113), [7], none⟩⟩,
    ⟨true, ⟨(some 115), .call .heap (.f 91) [(.t 109), (.t 114)], [3, 8], none⟩⟩,
    ⟨true, ⟨(some 116), .un .not (.t 115), [9], none⟩⟩] [] 83005761302944461210004125888020480)
  (.cond (.t 116)
   (.exit 6)
   .skip))
  (.region [⟨true, ⟨(some 117), .mov (.t 0), [], none⟩⟩,
    ⟨true, ⟨(some 118), .mov (.t 10), [], none⟩⟩,
    ⟨true, ⟨(some 119), .mov (.t 0), [], none⟩⟩,
    ⟨true, ⟨(some 120), .mov (.t 10), [], none⟩⟩,
    ⟨true, ⟨(some 121), .bin .sub (.t 120) (.c (.int .i64 (.ofNat 1))), [3], none⟩⟩,
    ⟨true, ⟨(some 122), .mov (.t 0), [], none⟩⟩,
    ⟨true, ⟨(some 123), .mov (.t 10), [], none⟩⟩,
    ⟨true, ⟨(some 124), .bin .sub (.t 123) (.c (.int .i64 (.ofNat 1))), [6], none⟩⟩,
    ⟨true, ⟨(some 125), .iaddr none 1 (.t 122) (.t 124), [5, 7], none⟩⟩,
    ⟨true, ⟨(some 126), .load none (.t 125), [8], none⟩⟩,
    ⟨true, ⟨(some 127), .mov (.t 0), [], none⟩⟩,
    ⟨true, ⟨(some 128), .mov (.t 10), [], none⟩⟩,
    ⟨true, ⟨(some 129), .iaddr none 1 (.t 127) (.t 128), [10, 11], none⟩⟩,
    ⟨true, ⟨(some 130), .load none (.t 129), [12], none⟩⟩,
    ⟨true, ⟨(some 131), .iaddr none 1 (.t 117) (.t 118), [0, 1, 0, 1, 5, 6, 7, 8, 9, 13], none⟩⟩,
    ⟨false, ⟨none, .store 1 (.t 131) (.t 126), [14, 9, 0, 1, 5, 6, 7, 8, 9, 13], none⟩⟩,
    ⟨true, ⟨(some 132), .iaddr none 1 (.t 119) (.t 121), [2, 4, 0, 1, 2, 3, 4, 5, 6, 7, 8, 9, 10, 11, 12, 13, 14, 15], none⟩⟩,
    ⟨false, ⟨none, .store 1 (.t 132) (.t 130), [16, 13, 15, 0, 1, 2, 3, 4, 5, 6, 7, 8, 9, 10, 11, 12, 13, 14, 15], none⟩⟩] [] 10888952664720294273585930949875315245056)))
  (.region [⟨true, ⟨(some 104), .mov (.t 10), [], none⟩⟩,
    ⟨true, ⟨(some 105), .bin .add (.t 104) (.c (.int .i64 (.ofNat 1))), [0], none⟩⟩,
    ⟨false, ⟨(some 10), .mov (.t 105), [1, 0, 1], none⟩⟩] [] 60847228810955011271841753858048))))))
  .skip))))))))
 (.region [⟨true, ⟨(some 15), .mov (.t 8), [], none⟩⟩,
   ⟨true, ⟨(some 16), .bin .add (.t 15) (.c (.int .i64 (.ofNat 1))), [0], none⟩⟩,
   ⟨false, ⟨(some 8), .mov (.t 16), [1, 0, 1], none⟩⟩] [] 316912650057057350374175900672))))))
 (.seq (.region [⟨true, ⟨(some 6), .mov (.c (.bool false)), [], none⟩⟩] [] 4292870535)
 .ret))))⟩

-- cmp.Less[int]
def f91 : FFn := ⟨17, [.tmp 4],
 (.seq (.region [⟨true, ⟨(some 4), .mov (.c (.bool false)), [], none⟩⟩] [] 16)
 (.seq (.region [⟨true, ⟨(some 5), .mov (.t 0), [], none⟩⟩,
   ⟨true, ⟨(some 6), .call .heap (.f 111) [(.t 5)], [0], none⟩⟩,
   ⟨true, ⟨(some 7), .mov (.t 6), [1, 1], none⟩⟩,
   ⟨true, ⟨(some 8), .mov (.t 1), [2], (some (7, true))⟩⟩,
   ⟨true, ⟨(some 9), .call .heap (.f 111) [(.t 8)], [3, 2, 2], (some (7, true))⟩⟩,
   ⟨true, ⟨(some 10), .un .not (.t 9), [4, 2], (some (7, true))⟩⟩,
   ⟨true, ⟨(some 11), .pick (.t 7) (.t 10) (.c (.bool false)), [2, 5], none⟩⟩,
   ⟨true, ⟨(some 12), .mov (.t 11), [6, 4], none⟩⟩,
   ⟨true, ⟨(some 13), .mov (.t 0), [7], (some (12, false))⟩⟩,
   ⟨true, ⟨(some 14), .mov (.t 1), [7], (some (12, false))⟩⟩,
   ⟨true, ⟨(some 15), .bin .lss (.t 13) (.t 14), [8, 9, 7], (some (12, false))⟩⟩,
   ⟨true, ⟨(some 16), .pick (.t 12) (.c (.bool true)) (.t 15), [7, 10], none⟩⟩,
   ⟨true, ⟨(some 4), .mov (.t 16), [11, 7, 0, 1, 2, 3, 4, 5, 6, 7, 8, 9, 10, 11], none⟩⟩] [] 131043)
 .ret))⟩

-- slices.partitionEqualOrdered[int]
def f92 : FFn := ⟨84, [.tmp 8],
 (.seq (.region [⟨true, ⟨(some 8), .mov (.c (.int .i64 (.ofNat 0))), [], none⟩⟩] [] 256)
 (.seq (.region [⟨true, ⟨(some 11), .mov (.t 0), [], none⟩⟩,
   ⟨true, ⟨(some 12), .mov (.t 1), [], none⟩⟩,
   ⟨true, ⟨(some 13), .mov (.t 0), [], none⟩⟩,
   ⟨true, ⟨(some 14), .mov (.t 3), [], none⟩⟩,
   ⟨true, ⟨(some 15), .mov (.t 0), [], none⟩⟩,
   ⟨true, ⟨(some 16), .mov (.t 3), [], none⟩⟩,
   ⟨true, ⟨(some 17), .iaddr none 1 (.t 15) (.t 16), [4, 5], none⟩⟩,
   ⟨true, ⟨(some 18), .load none (.t 17), [6], none⟩⟩,
   ⟨true, ⟨(some 19), .mov (.t 0), [], none⟩⟩,
   ⟨true, ⟨(some 20), .mov (.t 1), [], none⟩⟩,
   ⟨true, ⟨(some 21), .iaddr none 1 (.t 19) (.t 20), [8, 9], none⟩⟩,
   ⟨true, ⟨(some 22), .load none (.t 21), [10], none⟩⟩,
   ⟨true, ⟨(some 23), .iaddr none 1 (.t 11) (.t 12), [0, 1, 0, 1, 4, 5, 6, 7, 11], none⟩⟩,
   ⟨false, ⟨none, .store 1 (.t 23) (.t 18), [12, 7, 0, 1, 4, 5, 6, 7, 11], none⟩⟩,
   ⟨true, ⟨(some 24), .iaddr none 1 (.t 13) (.t 14), [2, 3, 0, 1, 2, 3, 4, 5, 6, 7, 8, 9, 10, 11, 12, 13], none⟩⟩,
   ⟨false, ⟨none, .store 1 (.t 24) (.t 22), [14, 11, 13, 0, 1, 2, 3, 4, 5, 6, 7, 8, 9, 10, 11, 12, 13], none⟩⟩] [] 33552392)
 (.seq (.region [⟨true, ⟨(some 25), .mov (.t 1), [], none⟩⟩,
   ⟨true, ⟨(some 26), .bin .add (.t 25) (.c (.int .i64 (.ofNat 1))), [0], none⟩⟩,
   ⟨true, ⟨(some 27), .mov (.t 2), [], none⟩⟩,
   ⟨true, ⟨(some 28), .bin .sub (.t 27) (.c (.int .i64 (.ofNat 1))), [2], none⟩⟩,
   ⟨true, ⟨(some 9), .mov (.t 26), [1, 0, 1], none⟩⟩,
   ⟨true, ⟨(some 10), .mov (.t 28), [3, 4, 0, 1, 2, 3, 4], none⟩⟩] [] 503316484)
 (.seq (.block 0 (.loop (.block 1 (.seq (.block 2 (.loop (.seq (.seq (.region [⟨true, ⟨(some 29), .mov (.t 9), [], none⟩⟩,
   ⟨true, ⟨(some 30), .mov (.t 10), [], none⟩⟩,
   ⟨true, ⟨(some 31), .bin .leq (.t 29) (.t 30), [0, 1], none⟩⟩,
   ⟨true, ⟨(some 32), .mov (.t 31), [2], none⟩⟩,
   ⟨false, ⟨(some 33), .mov (.t 0), [3], (some (32, true))⟩⟩,
   ⟨false, ⟨(some 34), .mov (.t 1), [3], (some (32, true))⟩⟩,
   ⟨false, ⟨(some 35), .iaddr none 1 (.t 33) (.t 34), [4, 5, 3], (some (32, true))⟩⟩,
   ⟨false, ⟨(some 36), .load none (.t 35), [6, 3], (some (32, true))⟩⟩,
   ⟨false, ⟨(some 37), .mov (.t 0), [3], (some (32, true))⟩⟩,
   ⟨false, ⟨(some 38), .mov (.t 9), [3], (some (32, true))⟩⟩,
   ⟨false, ⟨(some 39), .iaddr none 1 (.t 37) (.t 38), [8, 9, 3], (some (32, true))⟩⟩,
   ⟨false, ⟨(some 40), .load none (.t 39), [10, 3], (some (32, true))⟩⟩,
   ⟨false, ⟨(some 41), .call .heap (.f 91) [(.t 36), (.t 40)], [7, 11, 3, 3], (some (32, true))⟩⟩,
   ⟨false, ⟨(some 42), .un .not (.t 41), [12, 3], (some (32, true))⟩⟩,
   ⟨true, ⟨(some 43), .pick (.t 32) (.t 42) (.c (.bool false)), [3, 13], none⟩⟩] [] 8053063680)
 (.cond (.t 43)
  .skip
  (.exit 2)))
 (.block 3 (.region [⟨true, ⟨(some 44), .mov (.t 9), [], none⟩⟩,
   ⟨true, ⟨(some 45), .bin .add (.t 44) (.c (.int .i64 (.ofNat 1))), [0], none⟩⟩,
   ⟨false, ⟨(some 9), .mov (.t 45), [1, 0, 1], none⟩⟩] [] 61572651155456)))))
 (.seq (.block 4 (.loop (.seq (.seq (.region [⟨true, ⟨(some 46), .mov (.t 9), [], none⟩⟩,
   ⟨true, ⟨(some 47), .mov (.t 10), [], none⟩⟩,
   ⟨true, ⟨(some 48), .bin .leq (.t 46) (.t 47), [0, 1], none⟩⟩,
   ⟨true, ⟨(some 49), .mov (.t 48), [2], none⟩⟩,
   ⟨false, ⟨(some 50), .mov (.t 0), [3], (some (49, true))⟩⟩,
   ⟨false, ⟨(some 51), .mov (.t 1), [3], (some (49, true))⟩⟩,
   ⟨false, ⟨(some 52), .iaddr none 1 (.t 50) (.t 51), [4, 5, 3], (some (49, true))⟩⟩,
   ⟨false, ⟨(some 53), .load none (.t 52), [6, 3], (some (49, true))⟩⟩,
   ⟨false, ⟨(some 54), .mov (.t 0), [3], (some (49, true))⟩⟩,
   ⟨false, ⟨(some 55), .mov (.t 10), [3], (some (49, true))⟩⟩,
   ⟨false, ⟨(some 56), .iaddr none 1 (.t 54) (.t 55), [8, 9, 3], (some (49, true))⟩⟩,
   ⟨false, ⟨(some 57), .load none (.t 56), [10, 3], (some (49, true))⟩⟩,
   ⟨false, ⟨(some 58), .call .heap (.f 91) [(.t 53), (.t 57)], [7, 11, 3, 3], (some (49, true))⟩⟩,
   ⟨true, ⟨(some 59), .pick (.t 49) (.t 58) (.c (.bool false)), [3, 12], none⟩⟩] [] 1055531162664960)
 (.cond (.t 59)
  .skip
  (.exit 4)))
 (.block 5 (.region [⟨true, ⟨(some 60), .mov (.t 10), [], none⟩⟩,
   ⟨true, ⟨(some 61), .bin .sub (.t 60) (.c (.int .i64 (.ofNat 1))), [0], none⟩⟩,
   ⟨false, ⟨(some 10), .mov (.t 61), [1, 0, 1], none⟩⟩] [] 4035225266123964416)))))
 (.seq (.seq (.region [⟨true, ⟨(some 62), .mov (.t 9), [], none⟩⟩,
   ⟨true, ⟨(some 63), .mov (.t 10), [], none⟩⟩,
   ⟨true, ⟨(some 64), .bin .gtr (.t 62) (.t 63), [0, 1], none⟩⟩] [] 13835058055282163712)
 (.cond (.t 64)
  (.exit 0)
  .skip))
 (.seq (.region [⟨true, ⟨(some 65), .mov (.t 0), [], none⟩⟩,
   ⟨true, ⟨(some 66), .mov (.t 9), [], none⟩⟩,
   ⟨true, ⟨(some 67), .mov (.t 0), [], none⟩⟩,
   ⟨true, ⟨(some 68), .mov (.t 10), [], none⟩⟩,
   ⟨true, ⟨(some 69), .mov (.t 0), [], none⟩⟩,
   ⟨true, ⟨(some 70), .mov (.t 10), [], none⟩⟩,
   ⟨true, ⟨(some 71), .iaddr none 1 (.t 69) (.t 70), [4, 5], none⟩⟩,
   ⟨true, ⟨(some 72), .load none (.t 71), [6], none⟩⟩,
   ⟨true, ⟨(some 73), .mov (.t 0), [], none⟩⟩,
   ⟨true, ⟨(some 74), .mov (.t 9), [], none⟩⟩,
   ⟨true, ⟨(some 75), .iaddr none 1 (.t 73) (.t 74), [8, 9], none⟩⟩,
   ⟨true, ⟨(some 76), .load none (.t 75), [10], none⟩⟩,
   ⟨true, ⟨(some 77), .iaddr none 1 (.t 65) (.t 66), [0, 1, 0, 1, 4, 5, 6, 7, 11], none⟩⟩,
   ⟨false, ⟨none, .store 1 (.t 77) (.t 72), [12, 7, 0, 1, 4, 5, 6, 7, 11], none⟩⟩,
   ⟨true, ⟨(some 78), .iaddr none 1 (.t 67) (.t 68), [2, 3, 0, 1, 2, 3, 4, 5, 6, 7, 8, 9, 10, 11, 12, 13], none⟩⟩,
   ⟨false, ⟨none, .store 1 (.t 78) (.t 76), [14, 11, 13, 0, 1, 2, 3, 4, 5, 6, 7, 8, 9, 10, 11, 12, 13], none⟩⟩] [] 604444463063240877801472)
 (.seq (.region [⟨true, ⟨(some 79), .mov (.t 9), [], none⟩⟩,
   ⟨true, ⟨(some 80), .bin .add (.t 79) (.c (.int .i64 (.ofNat 1))), [0], none⟩⟩,
   ⟨false, ⟨(some 9), .mov (.t 80), [1, 0, 1], none⟩⟩] [] 1813388729421943762059264)
 (.region [⟨true, ⟨(some 81), .mov (.t 10), [], none⟩⟩,
   ⟨true, ⟨(some 82), .bin .sub (.t 81) (.c (.int .i64 (.ofNat 1))), [0], none⟩⟩,
   ⟨false, ⟨(some 10), .mov (.t 82), [1, 0, 1], none⟩⟩] [] 7253554917687775048237056)))))))))
 (.seq (.region [⟨true, ⟨(some 83), .mov (.t 9), [], none⟩⟩,
   ⟨true, ⟨(some 8), .mov (.t 83), [0, 0], none⟩⟩] [] 9671407132260673297319427)
 .ret)))))⟩


end Go.AM.FD
