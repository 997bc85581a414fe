/- A part of the proof of CataloguePlantsCardSaid: lemmas on the way (AmIpa). Conditions: none of ours. -/
import Derived.Test.YtnjlnnbepabfcaaGreatDoorProg
import Derived.KernelRfl
import Derived.Test.YtnjlnnbepabfcaaGreatDoorAmZ8
set_option linter.unusedSectionVars false
set_option maxRecDepth 100000
namespace Go.AM.IP
open Go.Proofs
def f4 : FFn := ⟨148, [.tmp 2],
 (.seq (.region [⟨true, ⟨(some 2), .mov (.c (.bool false)), [], none⟩⟩] [] 4)
 (.seq (.seq (.region [⟨true, ⟨(some 15), .call .pure (.f 9) [], [], none⟩⟩,
   ⟨true, ⟨(some 16), .un .not (.t 15), [0], none⟩⟩] [] 32768)
 (.cond (.t 16)
  (.seq (.region [⟨true, ⟨(some 2), .mov (.c (.bool false)), [], none⟩⟩] [] 65537)
  .ret)
  .skip))
 (.seq (.region [⟨true, ⟨(some 18), .mov (.t 0), [], none⟩⟩,
   ⟨true, ⟨(some 19), .call .heap (.f 15) [(.t 18)], [0], none⟩⟩,
   ⟨true, ⟨(some 17), .mov (.t 19), [1], none⟩⟩,
   ⟨true, ⟨(some 20), .extract 0 (.t 17), [2], none⟩⟩,
   ⟨true, ⟨(some 21), .extract 1 (.t 17), [2], none⟩⟩,
   ⟨true, ⟨(some 22), .extract 2 (.t 17), [2], none⟩⟩,
   ⟨true, ⟨(some 23), .extract 3 (.t 17), [2], none⟩⟩,
   ⟨true, ⟨(some 24), .extract 4 (.t 17), [2], none⟩⟩,
   ⟨true, ⟨(some 4), .alloc .dyn (.agg [.nilsl, (.int .i64 (.ofNat 0)), .nilsl, .nilsl]), [], none⟩⟩,
   ⟨true, ⟨(some 3), .mov (.t 20), [3, 1, 0, 1, 2, 3, 8], none⟩⟩,
   ⟨false, ⟨none, .store 4 (.t 4) (.t 21), [8, 4, 9, 0, 1, 2, 3, 4, 8, 9], none⟩⟩,
   ⟨true, ⟨(some 5), .mov (.t 22), [5, 10, 0, 1, 2, 3, 4, 5, 8, 9, 10], none⟩⟩,
   ⟨true, ⟨(some 6), .mov (.t 23), [6, 11, 0, 1, 2, 3, 4, 5, 6, 8, 9, 10, 11], none⟩⟩,
   ⟨true, ⟨(some 7), .mov (.t 24), [7, 12, 0, 1, 2, 3, 4, 5, 6, 7, 8, 9, 10, 11, 12], none⟩⟩] [] 33488900)
 (.seq (.seq (.region [⟨true, ⟨(some 25), .mov (.t 0), [], none⟩⟩,
   ⟨true, ⟨(some 26), .bin .lss (.t 25) (.c (.int .i64 (.ofNat 0))), [0], none⟩⟩,
   ⟨true, ⟨(some 27), .mov (.t 26), [1], none⟩⟩,
   ⟨true, ⟨(some 28), .mov (.t 0), [2], (some (27, false))⟩⟩,
   ⟨true, ⟨(some 29), .bin .gtr (.t 28) (.c (.int .i64 (.ofNat 16))), [3, 2], (some (27, false))⟩⟩,
   ⟨true, ⟨(some 30), .pick (.t 27) (.c (.bool true)) (.t 29), [2, 4], none⟩⟩] [] 1040187392)
 (.cond (.t 30)
  (.seq (.region [⟨true, ⟨(some 31), .mov (.t 3), [], none⟩⟩,
    ⟨true, ⟨(some 32), .len 1 (.t 31), [0], none⟩⟩,
    ⟨true, ⟨(some 33), .bin .eql (.t 32) (.c (.int .i64 (.ofNat 0))), [1], none⟩⟩,
    ⟨true, ⟨(some 34), .mov (.t 33), [2], none⟩⟩,
    ⟨true, ⟨(some 35), .faddr 1 (.t 4), [3], (some (34, true))⟩⟩,
    ⟨true, ⟨(some 36), .load none (.t 35), [4, 3], (some (34, true))⟩⟩,
    ⟨true, ⟨(some 37), .bin .eql (.t 36) (.c (.int .i64 (.ofNat 0))), [5, 3], (some (34, true))⟩⟩,
    ⟨true, ⟨(some 38), .pick (.t 34) (.t 37) (.c (.bool false)), [3, 6], none⟩⟩,
    ⟨true, ⟨(some 39), .mov (.t 38), [7, 3], none⟩⟩,
    ⟨true, ⟨(some 40), .mov (.t 5), [8], (some (39, true))⟩⟩,
    ⟨true, ⟨(some 41), .mov (.t 6), [8], (some (39, true))⟩⟩,
    ⟨true, ⟨(some 42), .bin .add (.t 40) (.t 41), [9, 10, 8], (some (39, true))⟩⟩,
    ⟨true, ⟨(some 43), .bin .eql (.t 42) (.c (.int .i64 (.ofNat 0))), [11, 8], (some (39, true))⟩⟩,
    ⟨true, ⟨(some 44), .pick (.t 39) (.t 43) (.c (.bool false)), [8, 12], none⟩⟩,
    ⟨true, ⟨(some 45), .mov (.t 44), [13, 8], none⟩⟩,
    ⟨true, ⟨(some 46), .mov (.t 7), [14], (some (45, true))⟩⟩,
    ⟨true, ⟨(some 47), .bin .eql (.t 46) (.c (.int .i64 (.ofNat 2))), [15, 14], (some (45, true))⟩⟩,
    ⟨true, ⟨(some 48), .pick (.t 45) (.t 47) (.c (.bool false)), [14, 16], none⟩⟩,
    ⟨true, ⟨(some 2), .mov (.t 48), [17, 14, 0, 1, 2, 3, 4, 5, 6, 7, 8, 9, 10, 11, 12, 13, 14, 15, 16, 17], none⟩⟩] [] 562948879679737)
  .ret)
  .skip))
 (.seq (.region [⟨true, ⟨(some 49), .bslice false .dyn 1 3 [(.int .i64 (.ofNat 0)), (.int .i64 (.ofNat 0)), (.int .i64 (.ofNat 0))] [(0, 1, (.c (.int .i64 (.ofNat 0)))), (1, 1, (.c (.int .i64 (.ofNat 1)))), (2, 1, (.c (.int .i64 (.ofNat 2))))], [], none⟩⟩,
   ⟨true, ⟨(some 50), .mov (.t 0), [], none⟩⟩,
   ⟨true, ⟨(some 51), .bin .add (.t 50) (.c (.int .i64 (.ofNat 2))), [1], none⟩⟩,
   ⟨true, ⟨(some 52), .bslice false .dyn 1 2 [(.int .i64 (.ofNat 0)), (.int .i64 (.ofNat 0))] [(0, 1, (.c (.int .i64 (.ofNat 0)))), (1, 1, (.c (.int .i64 (.ofNat 1))))], [], none⟩⟩,
   ⟨true, ⟨(some 53), .build [(.int .i64 (.ofNat 0)), (.int .i64 (.ofNat 0)), (.int .i64 (.ofNat 0))] [(0, 1, (.c (.int .i64 (.ofNat 0)))), (1, 1, (.c (.int .i64 (.ofNat 0)))), (2, 1, (.c (.int .i64 (.ofNat 0))))], [], none⟩⟩,
   ⟨true, ⟨(some 54), .build [(.int .i64 (.ofNat 0)), (.int .i64 (.ofNat 0)), (.int .i64 (.ofNat 0))] [(0, 1, (.c (.int .i64 (.ofNat 0)))), (1, 1, (.c (.int .i64 (.ofNat 1)))), (2, 1, (.c (.int .i64 (.ofNat 1))))], [], none⟩⟩,
   ⟨true, ⟨(some 55), .bslice false .dyn 3 2 [(.int .i64 (.ofNat 0)), (.int .i64 (.ofNat 0)), (.int .i64 (.ofNat 0)), (.int .i64 (.ofNat 0)), (.int .i64 (.ofNat 0)), (.int .i64 (.ofNat 0))] [(0, 3, (.t 53)), (3, 3, (.t 54))], [4, 5], none⟩⟩,
   ⟨true, ⟨(some 56), .build [.nilsl, (.int .i64 (.ofNat 0)), .nilsl, .nilsl] [(0, 1, (.t 49)), (1, 1, (.t 51)), (2, 1, (.t 52)), (3, 1, (.t 55))], [0, 2, 3, 6], none⟩⟩,
   ⟨true, ⟨(some 8), .alloc .dyn (.agg [.nilsl, (.int .i64 (.ofNat 0)), .nilsl, .nilsl]), [], none⟩⟩,
   ⟨false, ⟨none, .store 4 (.t 8) (.t 56), [8, 7, 0, 1, 2, 3, 4, 5, 6, 7, 8], none⟩⟩] [] 143552239196176388)
 (.seq (.seq (.region [⟨true, ⟨(some 9), .mov (.c (.int .i64 (.ofNat 0))), [], none⟩⟩] [] 0)
 (.block 0 (.loop (.seq (.seq (.region [⟨true, ⟨(some 57), .mov (.t 9), [], none⟩⟩,
   ⟨true, ⟨(some 58), .mov (.t 0), [], none⟩⟩,
   ⟨true, ⟨(some 59), .bin .lss (.t 57) (.t 58), [0, 1], none⟩⟩] [] 432345564227567616)
 (.cond (.t 59)
  .skip
  (.exit 0)))
 (.seq (.block 1 (.seq (.region [⟨true, ⟨(some 62), .faddr 2 (.t 8), [], none⟩⟩,
   ⟨true, ⟨(some 63), .load none (.t 62), [0], none⟩⟩,
   ⟨true, ⟨(some 64), .mov (.t 9), [], none⟩⟩,
   ⟨true, ⟨(some 65), .bin .add (.c (.int .i64 (.ofNat 2))) (.t 64), [2], none⟩⟩,
   ⟨true, ⟨(some 66), .bslice false .dyn 1 1 [(.int .i64 (.ofNat 0))] [(0, 1, (.t 65))], [3], none⟩⟩,
   ⟨true, ⟨(some 67), .append .dyn 1 8 (.t 63) (.t 66), [1, 4], none⟩⟩,
   ⟨true, ⟨(some 68), .faddr 2 (.t 8), [0, 1, 2, 3, 4, 5], none⟩⟩,
   ⟨false, ⟨none, .store 1 (.t 68) (.t 67), [6, 5, 5, 0, 1, 2, 3, 4, 5], none⟩⟩] [] 586260585092581687296)
 (.region [⟨true, ⟨(some 69), .faddr 3 (.t 8), [], none⟩⟩,
   ⟨true, ⟨(some 70), .load none (.t 69), [0], none⟩⟩,
   ⟨true, ⟨(some 71), .mov (.t 9), [], none⟩⟩,
   ⟨true, ⟨(some 72), .bin .add (.c (.int .i64 (.ofNat 1))) (.t 71), [2], none⟩⟩,
   ⟨true, ⟨(some 73), .mov (.t 9), [], none⟩⟩,
   ⟨true, ⟨(some 74), .bin .add (.c (.int .i64 (.ofNat 2))) (.t 73), [4], none⟩⟩,
   ⟨true, ⟨(some 75), .build [(.int .i64 (.ofNat 0)), (.int .i64 (.ofNat 0)), (.int .i64 (.ofNat 0))] [(0, 1, (.t 72)), (1, 1, (.c (.int .i64 (.ofNat 0)))), (2, 1, (.t 74))], [3, 5], none⟩⟩,
   ⟨true, ⟨(some 76), .bslice false .dyn 3 1 [(.int .i64 (.ofNat 0)), (.int .i64 (.ofNat 0)), (.int .i64 (.ofNat 0))] [(0, 3, (.t 75))], [6], none⟩⟩,
   ⟨true, ⟨(some 77), .append .dyn 3 24 (.t 70) (.t 76), [1, 7], none⟩⟩,
   ⟨true, ⟨(some 78), .faddr 3 (.t 8), [0, 1, 2, 3, 4, 5, 6, 7, 8], none⟩⟩,
   ⟨false, ⟨none, .store 1 (.t 78) (.t 77), [9, 8, 8, 0, 1, 2, 3, 4, 5, 6, 7, 8], none⟩⟩] [] 603872613996955881701376)))
 (.region [⟨true, ⟨(some 60), .mov (.t 9), [], none⟩⟩,
   ⟨true, ⟨(some 61), .bin .add (.t 60) (.c (.int .i64 (.ofNat 1))), [0], none⟩⟩,
   ⟨false, ⟨(some 9), .mov (.t 61), [1, 0, 1], none⟩⟩] [] 3458764513820540928))))))
 (.seq (.region [⟨true, ⟨(some 79), .faddr 3 (.t 8), [], none⟩⟩,
   ⟨true, ⟨(some 80), .load none (.t 79), [0], none⟩⟩,
   ⟨true, ⟨(some 81), .mov (.t 0), [], none⟩⟩,
   ⟨true, ⟨(some 82), .bin .add (.t 81) (.c (.int .i64 (.ofNat 1))), [2], none⟩⟩,
   ⟨true, ⟨(some 83), .mov (.t 0), [], none⟩⟩,
   ⟨true, ⟨(some 84), .bin .add (.t 83) (.c (.int .i64 (.ofNat 1))), [4], none⟩⟩,
   ⟨true, ⟨(some 85), .build [(.int .i64 (.ofNat 0)), (.int .i64 (.ofNat 0)), (.int .i64 (.ofNat 0))] [(0, 1, (.t 82)), (1, 1, (.c (.int .i64 (.ofNat 2)))), (2, 1, (.t 84))], [3, 5], none⟩⟩,
   ⟨true, ⟨(some 86), .bslice false .dyn 3 1 [(.int .i64 (.ofNat 0)), (.int .i64 (.ofNat 0)), (.int .i64 (.ofNat 0))] [(0, 3, (.t 85))], [6], none⟩⟩,
   ⟨true, ⟨(some 87), .append .dyn 3 24 (.t 80) (.t 86), [1, 7], none⟩⟩,
   ⟨true, ⟨(some 88), .faddr 3 (.t 8), [0, 1, 2, 3, 4, 5, 6, 7, 8], none⟩⟩,
   ⟨false, ⟨none, .store 1 (.t 88) (.t 87), [9, 8, 8, 0, 1, 2, 3, 4, 5, 6, 7, 8], none⟩⟩] [] 618365556732882822862209536)
 (.seq (.region [⟨true, ⟨(some 89), .build [(.str []), (.bool false), (.bool false), (.bool false), (.int .i64 (.ofNat 0))] [(0, 1, (.c (.str [97]))), (2, 1, (.c (.bool true)))], [], none⟩⟩,
   ⟨true, ⟨(some 90), .build [(.str []), (.bool false), (.bool false), (.bool false), (.int .i64 (.ofNat 0))] [(0, 1, (.c (.str [102]))), (4, 1, (.c (.int .i64 (.ofNat 1))))], [], none⟩⟩,
   ⟨true, ⟨(some 91), .build [(.str []), (.bool false), (.bool false), (.bool false), (.int .i64 (.ofNat 0))] [(0, 1, (.c (.str [98]))), (2, 1, (.c (.bool true)))], [], none⟩⟩,
   ⟨true, ⟨(some 92), .bslice false .dyn 5 3 [(.str []), (.bool false), (.bool false), (.bool false), (.int .i64 (.ofNat 0)), (.str []), (.bool false), (.bool false), (.bool false), (.int .i64 (.ofNat 0)), (.str []), (.bool false), (.bool false), (.bool false), (.int .i64 (.ofNat 0))] [(0, 5, (.t 89)), (5, 5, (.t 90)), (10, 5, (.t 91))], [0, 1, 2], none⟩⟩,
   ⟨true, ⟨(some 10), .mov (.t 92), [3, 0, 1, 2, 3], none⟩⟩] [] 9284550294640352061743431680)
 (.seq (.seq (.region [⟨true, ⟨(some 93), .mov (.t 7), [], none⟩⟩,
   ⟨true, ⟨(some 94), .bin .neq (.t 93) (.c (.int .i64 (.ofNat 0))), [0], none⟩⟩,
   ⟨true, ⟨(some 95), .mov (.t 94), [1], none⟩⟩,
   ⟨false, ⟨(some 96), .load (some 4) (.t 4), [2], (some (95, false))⟩⟩,
   ⟨false, ⟨(some 97), .load (some 4) (.t 8), [2], (some (95, false))⟩⟩,
   ⟨false, ⟨(some 98), .call .heap (.f 16) [(.t 96), (.t 97)], [3, 4, 2, 2], (some (95, false))⟩⟩,
   ⟨false, ⟨(some 99), .un .not (.t 98), [5, 2], (some (95, false))⟩⟩,
   ⟨true, ⟨(some 100), .pick (.t 95) (.c (.bool true)) (.t 99), [2, 6], none⟩⟩,
   ⟨true, ⟨(some 101), .mov (.t 100), [7, 5], none⟩⟩,
   ⟨false, ⟨(some 102), .mov (.t 5), [8], (some (101, false))⟩⟩,
   ⟨false, ⟨(some 103), .bin .neq (.t 102) (.c (.int .i64 (.ofNat 1))), [9, 8], (some (101, false))⟩⟩,
   ⟨true, ⟨(some 104), .pick (.t 101) (.c (.bool true)) (.t 103), [8, 10], none⟩⟩,
   ⟨true, ⟨(some 105), .mov (.t 104), [11, 8], none⟩⟩,
   ⟨false, ⟨(some 106), .mov (.t 6), [12], (some (105, false))⟩⟩,
   ⟨false, ⟨(some 107), .mov (.t 0), [12], (some (105, false))⟩⟩,
   ⟨false, ⟨(some 108), .bin .add (.t 107) (.c (.int .i64 (.ofNat 1))), [14, 12], (some (105, false))⟩⟩,
   ⟨false, ⟨(some 109), .bin .neq (.t 106) (.t 108), [13, 15, 12], (some (105, false))⟩⟩,
   ⟨true, ⟨(some 110), .pick (.t 105) (.c (.bool true)) (.t 109), [12, 16], none⟩⟩,
   ⟨true, ⟨(some 111), .mov (.t 110), [17, 12], none⟩⟩,
   ⟨false, ⟨(some 112), .mov (.t 3), [18], (some (111, false))⟩⟩,
   ⟨false, ⟨(some 113), .len 1 (.t 112), [19, 18], (some (111, false))⟩⟩,
   ⟨false, ⟨(some 114), .bin .neq (.t 113) (.c (.int .i64 (.ofNat 3))), [20, 18], (some (111, false))⟩⟩,
   ⟨true, ⟨(some 115), .pick (.t 111) (.c (.bool true)) (.t 114), [18, 21], none⟩⟩] [] 41538364964758306745201771440767361)
 (.cond (.t 115)
  (.seq (.region [⟨true, ⟨(some 2), .mov (.c (.bool false)), [], none⟩⟩] [] 158892809581069064751720613720863546363872376)
  .ret)
  .skip))
 (.seq (.seq (.region [⟨true, ⟨(some 11), .mov (.c (.int .i64 (.ofNat 0))), [], none⟩⟩] [] 41538374868278621028243970633760772)
 (.block 2 (.loop (.seq (.seq (.region [⟨true, ⟨(some 116), .mov (.t 11), [], none⟩⟩,
   ⟨true, ⟨(some 117), .bin .lss (.t 116) (.c (.int .i64 (.ofNat 3))), [0], none⟩⟩] [] 83076749736557242056487941267521536)
 (.cond (.t 117)
  .skip
  (.exit 2)))
 (.seq (.block 3 (.seq (.region [⟨true, ⟨(some 120), .mov (.t 3), [], none⟩⟩,
   ⟨true, ⟨(some 121), .mov (.t 11), [], none⟩⟩,
   ⟨true, ⟨(some 122), .iaddr none 5 (.t 120) (.t 121), [0, 1], none⟩⟩,
   ⟨true, ⟨(some 123), .load (some 5) (.t 122), [2], none⟩⟩,
   ⟨true, ⟨(some 124), .mov (.t 10), [], none⟩⟩,
   ⟨true, ⟨(some 125), .mov (.t 11), [], none⟩⟩,
   ⟨true, ⟨(some 126), .iaddr none 5 (.t 124) (.t 125), [4, 5], none⟩⟩,
   ⟨true, ⟨(some 127), .load (some 5) (.t 126), [6], none⟩⟩,
   ⟨true, ⟨(some 128), .eq (.flat true [.s, .b, .b, .b, .i]) true (.t 123) (.t 127), [3, 7], none⟩⟩] [] 339119292424626662074583776254022909952)
 (.cond (.t 128)
  (.seq (.region [⟨true, ⟨(some 2), .mov (.c (.bool false)), [], none⟩⟩] [] 158893149821897610821905456067227007498325112)
  .ret)
  .skip)))
 (.region [⟨true, ⟨(some 118), .mov (.t 11), [], none⟩⟩,
   ⟨true, ⟨(some 119), .bin .add (.t 118) (.c (.int .i64 (.ofNat 1))), [0], none⟩⟩,
   ⟨false, ⟨(some 11), .mov (.t 119), [1, 0, 1], none⟩⟩] [] 341279287917777150368052462726978469892))))))
 (.seq (.region [⟨true, ⟨(some 130), .load (some 4) (.t 4), [], none⟩⟩,
   ⟨true, ⟨(some 131), .mov (.t 3), [], none⟩⟩,
   ⟨true, ⟨(some 132), .build [.nilsl, (.int .i64 (.ofNat 0)), .nilsl, .nilsl, .nilsl] [(0, 4, (.t 130)), (4, 1, (.t 131))], [0, 1], none⟩⟩,
   ⟨true, ⟨(some 133), .mov (.t 5), [], none⟩⟩,
   ⟨true, ⟨(some 134), .call .heap (.f 17) [(.t 132), (.t 133)], [2, 3], none⟩⟩,
   ⟨true, ⟨(some 129), .mov (.t 134), [4], none⟩⟩,
   ⟨true, ⟨(some 135), .extract 0 (.t 129), [5], none⟩⟩,
   ⟨true, ⟨(some 136), .extract 1 (.t 129), [5], none⟩⟩,
   ⟨true, ⟨(some 137), .extract 2 (.t 129), [5], none⟩⟩,
   ⟨true, ⟨(some 12), .mov (.t 135), [6, 4, 0, 1, 2, 3, 4, 5, 6], none⟩⟩,
   ⟨true, ⟨(some 13), .mov (.t 136), [7, 9, 0, 1, 2, 3, 4, 5, 6, 7, 9], none⟩⟩,
   ⟨true, ⟨(some 14), .mov (.t 137), [8, 10, 0, 1, 2, 3, 4, 5, 6, 7, 8, 9, 10], none⟩⟩] [] 347768578993199109659568848795267112111160)
 (.seq (.region [⟨true, ⟨(some 138), .mov (.t 14), [], none⟩⟩,
   ⟨true, ⟨(some 139), .bin .eql (.t 138) (.c (.int .i64 (.ofNat 0))), [0], none⟩⟩,
   ⟨true, ⟨(some 140), .mov (.t 139), [1], none⟩⟩,
   ⟨false, ⟨(some 141), .mov (.t 13), [2], (some (140, true))⟩⟩,
   ⟨true, ⟨(some 142), .pick (.t 140) (.t 141) (.c (.bool false)), [2, 3], none⟩⟩,
   ⟨true, ⟨(some 143), .mov (.t 142), [4, 2], none⟩⟩,
   ⟨false, ⟨(some 144), .mov (.t 12), [5], (some (143, true))⟩⟩,
   ⟨false, ⟨(some 145), .mov (.t 6), [5], (some (143, true))⟩⟩,
   ⟨false, ⟨(some 146), .bin .eql (.t 144) (.t 145), [6, 7, 5], (some (143, true))⟩⟩,
   ⟨true, ⟨(some 147), .pick (.t 143) (.t 146) (.c (.bool false)), [5, 8], none⟩⟩,
   ⟨true, ⟨(some 2), .mov (.t 147), [9, 5, 0, 1, 2, 3, 4, 5, 6, 7, 8, 9], none⟩⟩] [] 356463474032762929277984996764363653447184448)
 .ret))))))))))))⟩
def f9 : FFn := ⟨123, [.tmp 0],
 (.seq (.region [⟨true, ⟨(some 0), .mov (.c (.bool false)), [], none⟩⟩] [] 1)
 (.seq (.region [⟨true, ⟨(some 15), .call .pure (.f 11) [(.c (.int .i64 (.ofNat 1))), (.c (.int .i64 (.ofNat 1)))], [], none⟩⟩,
   ⟨true, ⟨(some 14), .mov (.t 15), [0], none⟩⟩,
   ⟨true, ⟨(some 16), .extract 0 (.t 14), [1], none⟩⟩,
   ⟨true, ⟨(some 17), .extract 1 (.t 14), [1], none⟩⟩,
   ⟨true, ⟨(some 1), .alloc .dyn (.agg [.nilsl, .nilsl, .nilsl, .nilsl, .nilsl]), [], none⟩⟩,
   ⟨false, ⟨none, .store 5 (.t 1) (.t 16), [4, 2, 0, 0, 1, 2, 4], none⟩⟩,
   ⟨true, ⟨(some 2), .mov (.t 17), [3, 5, 0, 1, 2, 3, 4, 5], none⟩⟩] [] 245760)
 (.seq (.region [⟨true, ⟨(some 19), .call .heap (.f 18) [(.c (.int .i64 (.ofNat 1))), (.c (.int .i64 (.ofNat 1)))], [], none⟩⟩,
   ⟨true, ⟨(some 18), .mov (.t 19), [0], none⟩⟩,
   ⟨true, ⟨(some 20), .extract 0 (.t 18), [1], none⟩⟩,
   ⟨true, ⟨(some 21), .extract 1 (.t 18), [1], none⟩⟩,
   ⟨true, ⟨(some 3), .alloc .dyn (.agg [(.int .i64 (.ofNat 0)), (.int .i64 (.ofNat 0)), (.int .i64 (.ofNat 0)), (.int .i64 (.ofNat 0)), .nilsl]), [], none⟩⟩,
   ⟨false, ⟨none, .store 5 (.t 3) (.t 20), [4, 2, 0, 0, 1, 2, 4], none⟩⟩,
   ⟨true, ⟨(some 4), .mov (.t 21), [3, 5, 0, 1, 2, 3, 4, 5], none⟩⟩] [] 3932160)
 (.seq (.region [⟨true, ⟨(some 23), .call .pure (.f 11) [(.c (.int .i64 (.ofNat 3))), (.c (.int .i64 (.ofNat 2)))], [], none⟩⟩,
   ⟨true, ⟨(some 22), .mov (.t 23), [0], none⟩⟩,
   ⟨true, ⟨(some 24), .extract 0 (.t 22), [1], none⟩⟩,
   ⟨true, ⟨(some 25), .extract 1 (.t 22), [1], none⟩⟩,
   ⟨true, ⟨(some 5), .alloc .dyn (.agg [.nilsl, .nilsl, .nilsl, .nilsl, .nilsl]), [], none⟩⟩,
   ⟨false, ⟨none, .store 5 (.t 5) (.t 24), [4, 2, 0, 0, 1, 2, 4], none⟩⟩,
   ⟨true, ⟨(some 6), .mov (.t 25), [3, 5, 0, 1, 2, 3, 4, 5], none⟩⟩] [] 62914560)
 (.seq (.region [⟨true, ⟨(some 27), .call .heap (.f 31) [(.c (.int .i64 (.ofNat 3)))], [], none⟩⟩,
   ⟨true, ⟨(some 26), .mov (.t 27), [0], none⟩⟩,
   ⟨true, ⟨(some 28), .extract 0 (.t 26), [1], none⟩⟩,
   ⟨true, ⟨(some 29), .extract 1 (.t 26), [1], none⟩⟩,
   ⟨true, ⟨(some 7), .alloc .dyn (.agg [(.int .i64 (.ofNat 0)), (.int .i64 (.ofNat 0)), .nilsl, .nilsl]), [], none⟩⟩,
   ⟨false, ⟨none, .store 4 (.t 7) (.t 28), [4, 2, 0, 0, 1, 2, 4], none⟩⟩,
   ⟨true, ⟨(some 8), .mov (.t 29), [3, 5, 0, 1, 2, 3, 4, 5], none⟩⟩] [] 1006632960)
 (.seq (.region [⟨true, ⟨(some 31), .call .heap (.f 15) [(.c (.int .i64 (.ofNat 0)))], [], none⟩⟩,
   ⟨true, ⟨(some 30), .mov (.t 31), [0], none⟩⟩,
   ⟨true, ⟨(some 32), .extract 0 (.t 30), [1], none⟩⟩,
   ⟨true, ⟨(some 33), .extract 1 (.t 30), [1], none⟩⟩,
   ⟨true, ⟨(some 34), .extract 2 (.t 30), [1], none⟩⟩,
   ⟨true, ⟨(some 35), .extract 3 (.t 30), [1], none⟩⟩,
   ⟨true, ⟨(some 36), .extract 4 (.t 30), [1], none⟩⟩,
   ⟨true, ⟨(some 10), .alloc .dyn (.agg [.nilsl, (.int .i64 (.ofNat 0)), .nilsl, .nilsl]), [], none⟩⟩,
   ⟨true, ⟨(some 9), .mov (.t 32), [2, 0, 0, 1, 2, 7], none⟩⟩,
   ⟨false, ⟨none, .store 4 (.t 10) (.t 33), [7, 3, 8, 0, 1, 2, 3, 7, 8], none⟩⟩,
   ⟨true, ⟨(some 11), .mov (.t 34), [4, 9, 0, 1, 2, 3, 4, 7, 8, 9], none⟩⟩,
   ⟨true, ⟨(some 12), .mov (.t 35), [5, 10, 0, 1, 2, 3, 4, 5, 7, 8, 9, 10], none⟩⟩,
   ⟨true, ⟨(some 13), .mov (.t 36), [6, 11, 0, 1, 2, 3, 4, 5, 6, 7, 8, 9, 10, 11], none⟩⟩] [] 136365211648)
 (.seq (.region [⟨true, ⟨(some 37), .mov (.t 2), [], none⟩⟩,
   ⟨true, ⟨(some 38), .bin .eql (.t 37) (.c (.int .i64 (.ofNat 0))), [0], none⟩⟩,
   ⟨true, ⟨(some 39), .mov (.t 38), [1], none⟩⟩,
   ⟨true, ⟨(some 40), .faddr 1 (.t 1), [2], (some (39, true))⟩⟩,
   ⟨true, ⟨(some 41), .load none (.t 40), [3, 2], (some (39, true))⟩⟩,
   ⟨true, ⟨(some 42), .len 1 (.t 41), [4, 2], (some (39, true))⟩⟩,
   ⟨true, ⟨(some 43), .bin .eql (.t 42) (.c (.int .i64 (.ofNat 2))), [5, 2], (some (39, true))⟩⟩,
   ⟨true, ⟨(some 44), .pick (.t 39) (.t 43) (.c (.bool false)), [2, 6], none⟩⟩,
   ⟨true, ⟨(some 45), .mov (.t 44), [7, 2], none⟩⟩,
   ⟨true, ⟨(some 46), .faddr 2 (.t 1), [8], (some (45, true))⟩⟩,
   ⟨true, ⟨(some 47), .load none (.t 46), [9, 8], (some (45, true))⟩⟩,
   ⟨true, ⟨(some 48), .len 1 (.t 47), [10, 8], (some (45, true))⟩⟩,
   ⟨true, ⟨(some 49), .bin .eql (.t 48) (.c (.int .i64 (.ofNat 1))), [11, 8], (some (45, true))⟩⟩,
   ⟨true, ⟨(some 50), .pick (.t 45) (.t 49) (.c (.bool false)), [8, 12], none⟩⟩,
   ⟨true, ⟨(some 51), .mov (.t 50), [13, 8], none⟩⟩,
   ⟨true, ⟨(some 52), .mov (.t 4), [14], (some (51, true))⟩⟩,
   ⟨true, ⟨(some 53), .bin .eql (.t 52) (.c (.int .i64 (.ofNat 0))), [15, 14], (some (51, true))⟩⟩,
   ⟨true, ⟨(some 54), .pick (.t 51) (.t 53) (.c (.bool false)), [14, 16], none⟩⟩,
   ⟨true, ⟨(some 55), .mov (.t 54), [17, 14], none⟩⟩,
   ⟨true, ⟨(some 56), .faddr 0 (.t 3), [18], (some (55, true))⟩⟩,
   ⟨true, ⟨(some 57), .load none (.t 56), [19, 18], (some (55, true))⟩⟩,
   ⟨true, ⟨(some 58), .bin .eql (.t 57) (.c (.int .i64 (.ofNat 8))), [20, 18], (some (55, true))⟩⟩,
   ⟨true, ⟨(some 59), .pick (.t 55) (.t 58) (.c (.bool false)), [18, 21], none⟩⟩,
   ⟨true, ⟨(some 60), .mov (.t 59), [22, 18], none⟩⟩,
   ⟨true, ⟨(some 61), .faddr 2 (.t 3), [23], (some (60, true))⟩⟩,
   ⟨true, ⟨(some 62), .load none (.t 61), [24, 23], (some (60, true))⟩⟩,
   ⟨true, ⟨(some 63), .bin .eql (.t 62) (.c (.int .i64 (.ofNat 6))), [25, 23], (some (60, true))⟩⟩,
   ⟨true, ⟨(some 64), .pick (.t 60) (.t 63) (.c (.bool false)), [23, 26], none⟩⟩,
   ⟨true, ⟨(some 65), .mov (.t 64), [27, 23], none⟩⟩,
   ⟨true, ⟨(some 66), .faddr 4 (.t 3), [28], (some (65, true))⟩⟩,
   ⟨true, ⟨(some 67), .load none (.t 66), [29, 28], (some (65, true))⟩⟩,
   ⟨true, ⟨(some 68), .len 1 (.t 67), [30, 28], (some (65, true))⟩⟩,
   ⟨true, ⟨(some 69), .bin .eql (.t 68) (.c (.int .i64 (.ofNat 2))), [31, 28], (some (65, true))⟩⟩,
   ⟨true, ⟨(some 70), .pick (.t 65) (.t 69) (.c (.bool false)), [28, 32], none⟩⟩,
   ⟨true, ⟨(some 71), .mov (.t 70), [33, 28], none⟩⟩,
   ⟨true, ⟨(some 72), .mov (.t 6), [34], (some (71, true))⟩⟩,
   ⟨true, ⟨(some 73), .bin .eql (.t 72) (.c (.int .i64 (.ofNat 0))), [35, 34], (some (71, true))⟩⟩,
   ⟨true, ⟨(some 74), .pick (.t 71) (.t 73) (.c (.bool false)), [34, 36], none⟩⟩,
   ⟨true, ⟨(some 75), .mov (.t 74), [37, 34], none⟩⟩,
   ⟨true, ⟨(some 76), .faddr 1 (.t 5), [38], (some (75, true))⟩⟩,
   ⟨true, ⟨(some 77), .load none (.t 76), [39, 38], (some (75, true))⟩⟩,
   ⟨true, ⟨(some 78), .len 1 (.t 77), [40, 38], (some (75, true))⟩⟩,
   ⟨true, ⟨(some 79), .bin .eql (.t 78) (.c (.int .i64 (.ofNat 4))), [41, 38], (some (75, true))⟩⟩,
   ⟨true, ⟨(some 80), .pick (.t 75) (.t 79) (.c (.bool false)), [38, 42], none⟩⟩,
   ⟨true, ⟨(some 81), .mov (.t 80), [43, 38], none⟩⟩,
   ⟨true, ⟨(some 82), .faddr 1 (.t 5), [44], (some (81, true))⟩⟩,
   ⟨true, ⟨(some 83), .load none (.t 82), [45, 44], (some (81, true))⟩⟩,
   ⟨true, ⟨(some 84), .iaddr none 5 (.t 83) (.c (.int .i64 (.ofNat 2))), [46, 44], (some (81, true))⟩⟩,
   ⟨true, ⟨(some 85), .faddr 1 (.t 84), [47, 44], (some (81, true))⟩⟩,
   ⟨true, ⟨(some 86), .faddr 0 (.t 85), [48, 44], (some (81, true))⟩⟩,
   ⟨true, ⟨(some 87), .load none (.t 86), [49, 44], (some (81, true))⟩⟩,
   ⟨true, ⟨(some 88), .bslice false .dyn 1 4 [(.int .i64 (.ofNat 0)), (.int .i64 (.ofNat 0)), (.int .i64 (.ofNat 0)), (.int .i64 (.ofNat 0))] [(0, 1, (.c (.int .i64 (.ofNat 0)))), (1, 1, (.c (.int .i64 (.ofNat 2)))), (2, 1, (.c (.int .i64 (.ofNat 4)))), (3, 1, (.c (.int .i64 (.ofNat 5))))], [44], (some (81, true))⟩⟩,
   ⟨true, ⟨(some 89), .call .heap (.f 32) [(.t 87), (.t 88)], [50, 51, 44, 44], (some (81, true))⟩⟩,
   ⟨true, ⟨(some 90), .pick (.t 81) (.t 89) (.c (.bool false)), [44, 52], none⟩⟩,
   ⟨true, ⟨(some 91), .mov (.t 90), [53, 52], none⟩⟩,
   ⟨true, ⟨(some 92), .mov (.t 8), [54], (some (91, true))⟩⟩,
   ⟨true, ⟨(some 93), .bin .eql (.t 92) (.c (.int .i64 (.ofNat 0))), [55, 54], (some (91, true))⟩⟩,
   ⟨true, ⟨(some 94), .pick (.t 91) (.t 93) (.c (.bool false)), [54, 56], none⟩⟩,
   ⟨true, ⟨(some 95), .mov (.t 94), [57, 54], none⟩⟩,
   ⟨true, ⟨(some 96), .faddr 2 (.t 7), [58], (some (95, true))⟩⟩,
   ⟨true, ⟨(some 97), .load none (.t 96), [59, 58], (some (95, true))⟩⟩,
   ⟨true, ⟨(some 98), .bslice false .dyn 1 3 [(.int .i64 (.ofNat 0)), (.int .i64 (.ofNat 0)), (.int .i64 (.ofNat 0))] [(0, 1, (.c (.int .i64 (.ofNat 0)))), (1, 1, (.c (.int .i64 (.ofNat 3)))), (2, 1, (.c (.int .i64 (.ofNat 6))))], [58], (some (95, true))⟩⟩,
   ⟨true, ⟨(some 99), .call .heap (.f 32) [(.t 97), (.t 98)], [60, 61, 58, 58], (some (95, true))⟩⟩,
   ⟨true, ⟨(some 100), .pick (.t 95) (.t 99) (.c (.bool false)), [58, 62], none⟩⟩,
   ⟨true, ⟨(some 101), .mov (.t 100), [63, 62], none⟩⟩,
   ⟨true, ⟨(some 102), .mov (.t 13), [64], (some (101, true))⟩⟩,
   ⟨true, ⟨(some 103), .bin .eql (.t 102) (.c (.int .i64 (.ofNat 0))), [65, 64], (some (101, true))⟩⟩,
   ⟨true, ⟨(some 104), .pick (.t 101) (.t 103) (.c (.bool false)), [64, 66], none⟩⟩,
   ⟨true, ⟨(some 105), .mov (.t 104), [67, 64], none⟩⟩,
   ⟨true, ⟨(some 106), .mov (.t 9), [68], (some (105, true))⟩⟩,
   ⟨true, ⟨(some 107), .len 1 (.t 106), [69, 68], (some (105, true))⟩⟩,
   ⟨true, ⟨(some 108), .bin .eql (.t 107) (.c (.int .i64 (.ofNat 3))), [70, 68], (some (105, true))⟩⟩,
   ⟨true, ⟨(some 109), .pick (.t 105) (.t 108) (.c (.bool false)), [68, 71], none⟩⟩,
   ⟨true, ⟨(some 110), .mov (.t 109), [72, 68], none⟩⟩,
   ⟨true, ⟨(some 111), .faddr 1 (.t 10), [73], (some (110, true))⟩⟩,
   ⟨true, ⟨(some 112), .load none (.t 111), [74, 73], (some (110, true))⟩⟩,
   ⟨true, ⟨(some 113), .bin .eql (.t 112) (.c (.int .i64 (.ofNat 2))), [75, 73], (some (110, true))⟩⟩,
   ⟨true, ⟨(some 114), .pick (.t 110) (.t 113) (.c (.bool false)), [73, 76], none⟩⟩,
   ⟨true, ⟨(some 115), .mov (.t 114), [77, 73], none⟩⟩,
   ⟨true, ⟨(some 116), .mov (.t 11), [78], (some (115, true))⟩⟩,
   ⟨true, ⟨(some 117), .bin .eql (.t 116) (.c (.int .i64 (.ofNat 1))), [79, 78], (some (115, true))⟩⟩,
   ⟨true, ⟨(some 118), .pick (.t 115) (.t 117) (.c (.bool false)), [78, 80], none⟩⟩,
   ⟨true, ⟨(some 119), .mov (.t 118), [81, 78], none⟩⟩,
   ⟨true, ⟨(some 120), .mov (.t 12), [82], (some (119, true))⟩⟩,
   ⟨true, ⟨(some 121), .bin .eql (.t 120) (.c (.int .i64 (.ofNat 1))), [83, 82], (some (119, true))⟩⟩,
   ⟨true, ⟨(some 122), .pick (.t 119) (.t 121) (.c (.bool false)), [82, 84], none⟩⟩,
   ⟨true, ⟨(some 0), .mov (.t 122), [85, 82, 0, 1, 2, 3, 4, 5, 6, 7, 8, 9, 10, 11, 12, 13, 14, 15, 16, 17, 18, 19, 20, 21, 22, 23, 24, 25, 26, 27, 28, 29, 30, 31, 32, 33, 34, 35, 36, 37, 38, 39, 40, 41, 42, 43, 44, 45, 46, 47, 48, 49, 50, 51, 52, 53, 54, 55, 56, 57, 58, 59, 60, 61, 62, 63, 64, 65, 66, 67, 68, 69, 70, 71, 72, 73, 74, 75, 76, 77, 78, 79, 80, 81, 82, 83, 84, 85], none⟩⟩] [] 10633823966279326983230456344803819518)
 .ret)))))))⟩
def f11 : FFn := ⟨54, [.cell 4 (some 5), .tmp 5],
 (.seq (.region [⟨true, ⟨(some 4), .alloc .dyn (.agg [.nilsl, .nilsl, .nilsl, .nilsl, .nilsl]), [], none⟩⟩,
   ⟨true, ⟨(some 5), .mov (.c (.int .i64 (.ofNat 0))), [], none⟩⟩] [] 32)
 (.seq (.seq (.region [⟨true, ⟨(some 10), .mov (.t 0), [], none⟩⟩,
   ⟨true, ⟨(some 11), .mov (.t 1), [], none⟩⟩,
   ⟨true, ⟨(some 12), .call .heap (.f 34) [(.t 10), (.t 11)], [0, 1], none⟩⟩,
   ⟨true, ⟨(some 6), .mov (.t 12), [2, 2, 0, 1, 2], none⟩⟩] [] 7168)
 (.seq (.region [⟨true, ⟨(some 13), .mov (.t 6), [], none⟩⟩,
   ⟨true, ⟨(some 14), .bin .neq (.t 13) (.c (.int .i64 (.ofNat 0))), [0], none⟩⟩] [] 8192)
 (.cond (.t 14)
  (.seq (.region [⟨true, ⟨(some 15), .build [.nilsl, .nilsl, .nilsl, .nilsl, .nilsl] [], [], none⟩⟩,
    ⟨true, ⟨(some 16), .mov (.t 6), [], none⟩⟩,
    ⟨false, ⟨none, .store 5 (.t 4) (.t 15), [0, 0], none⟩⟩,
    ⟨true, ⟨(some 5), .mov (.t 16), [1, 2, 0, 1, 2], none⟩⟩] [] 114755)
  .ret)
  .skip)))
 (.seq (.seq (.region [⟨true, ⟨(some 17), .mov (.t 0), [], none⟩⟩] [] 16481)
 (.block 0 (.seq (.region [⟨true, ⟨(some 19), .bin .eql (.t 17) (.c (.int .i64 (.ofNat 1))), [], none⟩⟩,
   ⟨true, ⟨(some 18), .mov (.t 19), [0], none⟩⟩] [] 524288)
 (.cond (.t 18)
  (.seq (.region [⟨true, ⟨(some 20), .call .heap (.f 35) [(.c (.int .i64 (.ofNat 2)))], [], none⟩⟩,
    ⟨true, ⟨(some 7), .alloc .dyn (.agg [.nilsl, .nilsl, .nilsl, .nilsl, .nilsl]), [], none⟩⟩,
    ⟨false, ⟨none, .store 5 (.t 7) (.t 20), [1, 0, 0, 0, 1], none⟩⟩] [] 1441792)
  (.seq (.region [⟨true, ⟨(some 21), .mov (.t 1), [], none⟩⟩,
    ⟨true, ⟨(some 22), .call .heap (.f 36) [(.c (.int .i64 (.ofNat 0))), (.t 21)], [0], none⟩⟩,
    ⟨true, ⟨(some 23), .bslice false .dyn 5 1 [(.str []), .nilsl, (.int .i64 (.ofNat 0)), .nilsl, .nilsl] [(0, 5, (.t 22))], [1], none⟩⟩,
    ⟨true, ⟨(some 24), .faddr 2 (.t 7), [0, 1, 2], none⟩⟩,
    ⟨false, ⟨none, .store 1 (.t 24) (.t 23), [3, 2, 1, 0, 1, 2], none⟩⟩] [] 31457282)
  (.seq (.region [⟨true, ⟨(some 25), .load (some 5) (.t 7), [], none⟩⟩,
    ⟨false, ⟨none, .store 5 (.t 4) (.t 25), [0, 0], none⟩⟩,
    ⟨true, ⟨(some 5), .mov (.c (.int .i64 (.ofNat 0))), [1, 0, 1], none⟩⟩] [] 33554560)
  .ret)))
  (.seq (.region [⟨true, ⟨(some 27), .bin .eql (.t 17) (.c (.int .i64 (.ofNat 2))), [], none⟩⟩,
    ⟨true, ⟨(some 26), .mov (.t 27), [0], none⟩⟩] [] 134479872)
  (.cond (.t 26)
   (.seq (.region [⟨true, ⟨(some 28), .mov (.t 1), [], none⟩⟩,
     ⟨true, ⟨(some 29), .call .heap (.f 35) [(.t 28)], [0], none⟩⟩,
     ⟨true, ⟨(some 8), .alloc .dyn (.agg [.nilsl, .nilsl, .nilsl, .nilsl, .nilsl]), [], none⟩⟩,
     ⟨false, ⟨none, .store 5 (.t 8) (.t 29), [2, 1, 1, 0, 1, 2], none⟩⟩] [] 872546304)
   (.seq (.seq (.region [⟨true, ⟨(some 30), .mov (.t 1), [], none⟩⟩,
     ⟨true, ⟨(some 31), .bin .sub (.t 30) (.c (.int .i64 (.ofNat 1))), [0], none⟩⟩,
     ⟨true, ⟨(some 32), .mov (.c (.int .i64 (.ofNat 0))), [], none⟩⟩] [] 1073741826)
   (.block 1 (.loop (.seq (.region [⟨true, ⟨(some 33), .bin .lss (.t 32) (.t 31), [], none⟩⟩] [] 0)
   (.seq (.cond (.t 33)
    .skip
    (.exit 1))
   (.seq (.block 2 (.seq (.region [⟨true, ⟨(some 34), .mov (.t 32), [], none⟩⟩,
     ⟨true, ⟨(some 9), .mov (.t 34), [0, 0], none⟩⟩] [] 25769803776)
   (.region [⟨true, ⟨(some 35), .faddr 2 (.t 8), [], none⟩⟩,
     ⟨true, ⟨(some 36), .load none (.t 35), [0], none⟩⟩,
     ⟨true, ⟨(some 37), .mov (.t 9), [], none⟩⟩,
     ⟨true, ⟨(some 38), .call .pure (.f 36) [(.t 37), (.c (.int .i64 (.ofNat 1)))], [2], none⟩⟩,
     ⟨true, ⟨(some 39), .bslice false .dyn 5 1 [(.str []), .nilsl, (.int .i64 (.ofNat 0)), .nilsl, .nilsl] [(0, 5, (.t 38))], [3], none⟩⟩,
     ⟨true, ⟨(some 40), .append .dyn 5 96 (.t 36) (.t 39), [1, 4, 3], none⟩⟩,
     ⟨true, ⟨(some 41), .faddr 2 (.t 8), [0, 1, 2, 3, 4, 5], none⟩⟩,
     ⟨false, ⟨none, .store 1 (.t 41) (.t 40), [6, 5, 5, 0, 1, 2, 3, 4, 5], none⟩⟩] [] 4363686773248)))
   (.region [⟨true, ⟨(some 42), .bin .add (.t 32) (.c (.int .i64 (.ofNat 1))), [], none⟩⟩,
     ⟨false, ⟨(some 32), .mov (.t 42), [0], none⟩⟩] [] 4398046511104)))))))
   (.seq (.region [⟨true, ⟨(some 43), .load (some 5) (.t 8), [], none⟩⟩,
     ⟨false, ⟨none, .store 5 (.t 4) (.t 43), [0, 0], none⟩⟩,
     ⟨true, ⟨(some 5), .mov (.c (.int .i64 (.ofNat 0))), [1, 0, 1], none⟩⟩] [] 8802535473408)
   .ret)))
   (.seq (.region [⟨true, ⟨(some 45), .bin .eql (.t 17) (.c (.int .i64 (.ofNat 3))), [], none⟩⟩,
     ⟨true, ⟨(some 44), .mov (.t 45), [0], none⟩⟩] [] 35184439197696)
   (.cond (.t 44)
    (.seq (.region [⟨true, ⟨(some 46), .mov (.t 1), [], none⟩⟩,
      ⟨true, ⟨(some 47), .call .heap (.f 37) [(.t 46)], [0], none⟩⟩,
      ⟨false, ⟨none, .store 5 (.t 4) (.t 47), [1, 1, 0, 1], none⟩⟩,
      ⟨true, ⟨(some 5), .mov (.c (.int .i64 (.ofNat 0))), [2, 0, 1, 2], none⟩⟩] [] 228698418708482)
    .ret)
    (.seq (.region [⟨true, ⟨(some 49), .bin .eql (.t 17) (.c (.int .i64 (.ofNat 4))), [], none⟩⟩,
      ⟨true, ⟨(some 48), .mov (.t 49), [0], none⟩⟩] [] 580542139596800)
    (.cond (.t 48)
     (.seq (.region [⟨true, ⟨(some 50), .mov (.t 1), [], none⟩⟩,
       ⟨true, ⟨(some 51), .call .heap (.f 38) [(.t 50)], [0], none⟩⟩,
       ⟨false, ⟨none, .store 5 (.t 4) (.t 51), [1, 1, 0, 1], none⟩⟩,
       ⟨true, ⟨(some 5), .mov (.c (.int .i64 (.ofNat 0))), [2, 0, 1, 2], none⟩⟩] [] 3659174697238530)
     .ret)
     .skip))))))))))
 (.seq (.region [⟨true, ⟨(some 52), .mov (.t 1), [], none⟩⟩,
   ⟨true, ⟨(some 53), .call .heap (.f 39) [(.t 52)], [0], none⟩⟩,
   ⟨false, ⟨none, .store 5 (.t 4) (.t 53), [1, 1, 0, 1], none⟩⟩,
   ⟨false, ⟨(some 5), .mov (.c (.int .i64 (.ofNat 0))), [2, 0, 1, 2], none⟩⟩] [] 13792273858822146)
 .ret))))⟩
def f15 : FFn := ⟨68, [.tmp 2, .cell 3 (some 4), .tmp 4, .tmp 5, .tmp 6],
 (.seq (.region [⟨true, ⟨(some 2), .mov (.c .nilsl), [], none⟩⟩,
   ⟨true, ⟨(some 3), .alloc .dyn (.agg [.nilsl, (.int .i64 (.ofNat 0)), .nilsl, .nilsl]), [], none⟩⟩,
   ⟨true, ⟨(some 4), .mov (.c (.int .i64 (.ofNat 0))), [0], none⟩⟩,
   ⟨true, ⟨(some 5), .mov (.c (.int .i64 (.ofNat 0))), [2], none⟩⟩,
   ⟨true, ⟨(some 6), .mov (.c (.int .i64 (.ofNat 0))), [3], none⟩⟩] [] 116)
 (.seq (.seq (.region [⟨true, ⟨(some 9), .mov (.t 0), [], none⟩⟩,
   ⟨true, ⟨(some 10), .bin .lss (.t 9) (.c (.int .i64 (.ofNat 0))), [0], none⟩⟩,
   ⟨true, ⟨(some 11), .mov (.t 10), [1], none⟩⟩,
   ⟨true, ⟨(some 12), .mov (.t 0), [2], (some (11, false))⟩⟩,
   ⟨true, ⟨(some 13), .bin .gtr (.t 12) (.c (.int .i64 (.ofNat 16))), [3, 2], (some (11, false))⟩⟩,
   ⟨true, ⟨(some 14), .pick (.t 11) (.c (.bool true)) (.t 13), [2, 4], none⟩⟩] [] 15872)
 (.cond (.t 14)
  (.seq (.region [⟨true, ⟨(some 15), .load (some 4) (.t 3), [], none⟩⟩,
    ⟨true, ⟨(some 2), .mov (.c .nilsl), [], none⟩⟩,
    ⟨false, ⟨none, .store 4 (.t 3) (.t 15), [0, 1, 0, 1], none⟩⟩,
    ⟨true, ⟨(some 4), .mov (.c (.int .i64 (.ofNat 0))), [2, 0, 1, 2], none⟩⟩,
    ⟨true, ⟨(some 5), .mov (.c (.int .i64 (.ofNat 0))), [3, 0, 1, 2, 3], none⟩⟩,
    ⟨true, ⟨(some 6), .mov (.c (.int .i64 (.ofNat 2))), [4, 0, 1, 2, 3, 4], none⟩⟩] [] 49153)
  .ret)
  .skip))
 (.seq (.region [⟨true, ⟨(some 16), .build [(.str []), (.bool false), (.bool false), (.bool false), (.int .i64 (.ofNat 0))] [(0, 1, (.c (.str [97]))), (2, 1, (.c (.bool true)))], [], none⟩⟩,
   ⟨true, ⟨(some 17), .build [(.str []), (.bool false), (.bool false), (.bool false), (.int .i64 (.ofNat 0))] [(0, 1, (.c (.str [102]))), (4, 1, (.c (.int .i64 (.ofNat 1))))], [], none⟩⟩,
   ⟨true, ⟨(some 18), .build [(.str []), (.bool false), (.bool false), (.bool false), (.int .i64 (.ofNat 0))] [(0, 1, (.c (.str [98]))), (2, 1, (.c (.bool true)))], [], none⟩⟩,
   ⟨true, ⟨(some 19), .bslice false .dyn 5 3 [(.str []), (.bool false), (.bool false), (.bool false), (.int .i64 (.ofNat 0)), (.str []), (.bool false), (.bool false), (.bool false), (.int .i64 (.ofNat 0)), (.str []), (.bool false), (.bool false), (.bool false), (.int .i64 (.ofNat 0))] [(0, 5, (.t 16)), (5, 5, (.t 17)), (10, 5, (.t 18))], [0, 1, 2], none⟩⟩,
   ⟨false, ⟨(some 2), .mov (.t 19), [3, 0, 1, 2, 3], none⟩⟩] [] 999536)
 (.seq (.region [⟨true, ⟨(some 20), .bslice false .dyn 1 3 [(.int .i64 (.ofNat 0)), (.int .i64 (.ofNat 0)), (.int .i64 (.ofNat 0))] [(0, 1, (.c (.int .i64 (.ofNat 0)))), (1, 1, (.c (.int .i64 (.ofNat 1)))), (2, 1, (.c (.int .i64 (.ofNat 2))))], [], none⟩⟩,
   ⟨true, ⟨(some 21), .mov (.t 0), [], none⟩⟩,
   ⟨true, ⟨(some 22), .bin .add (.t 21) (.c (.int .i64 (.ofNat 2))), [1], none⟩⟩,
   ⟨true, ⟨(some 23), .build [(.int .i64 (.ofNat 0)), (.int .i64 (.ofNat 0)), (.int .i64 (.ofNat 0))] [(0, 1, (.c (.int .i64 (.ofNat 0)))), (1, 1, (.c (.int .i64 (.ofNat 0)))), (2, 1, (.c (.int .i64 (.ofNat 0))))], [], none⟩⟩,
   ⟨true, ⟨(some 24), .build [(.int .i64 (.ofNat 0)), (.int .i64 (.ofNat 0)), (.int .i64 (.ofNat 0))] [(0, 1, (.c (.int .i64 (.ofNat 0)))), (1, 1, (.c (.int .i64 (.ofNat 1)))), (2, 1, (.c (.int .i64 (.ofNat 1))))], [], none⟩⟩,
   ⟨true, ⟨(some 25), .bslice false .dyn 3 2 [(.int .i64 (.ofNat 0)), (.int .i64 (.ofNat 0)), (.int .i64 (.ofNat 0)), (.int .i64 (.ofNat 0)), (.int .i64 (.ofNat 0)), (.int .i64 (.ofNat 0))] [(0, 3, (.t 23)), (3, 3, (.t 24))], [3, 4], none⟩⟩,
   ⟨true, ⟨(some 26), .build [.nilsl, (.int .i64 (.ofNat 0)), .nilsl, .nilsl] [(0, 1, (.t 20)), (1, 1, (.t 22)), (3, 1, (.t 25))], [0, 2, 5], none⟩⟩,
   ⟨false, ⟨none, .store 4 (.t 3) (.t 26), [6, 0, 1, 2, 3, 4, 5, 6], none⟩⟩] [] 133169152)
 (.seq (.seq (.region [⟨true, ⟨(some 27), .mov (.t 0), [], none⟩⟩,
   ⟨true, ⟨(some 28), .mov (.c (.int .i64 (.ofNat 0))), [], none⟩⟩] [] 0)
 (.block 0 (.loop (.seq (.region [⟨true, ⟨(some 29), .bin .lss (.t 28) (.t 27), [], none⟩⟩] [] 0)
 (.seq (.cond (.t 29)
  .skip
  (.exit 0))
 (.seq (.block 1 (.seq (.region [⟨true, ⟨(some 30), .mov (.t 28), [], none⟩⟩,
   ⟨true, ⟨(some 7), .mov (.t 30), [0, 0], none⟩⟩] [] 1610612736)
 (.region [⟨true, ⟨(some 31), .faddr 3 (.t 3), [], none⟩⟩,
   ⟨true, ⟨(some 32), .load none (.t 31), [0], none⟩⟩,
   ⟨true, ⟨(some 33), .mov (.t 7), [], none⟩⟩,
   ⟨true, ⟨(some 34), .bin .add (.c (.int .i64 (.ofNat 1))) (.t 33), [2], none⟩⟩,
   ⟨true, ⟨(some 35), .mov (.t 7), [], none⟩⟩,
   ⟨true, ⟨(some 36), .bin .add (.c (.int .i64 (.ofNat 2))) (.t 35), [4], none⟩⟩,
   ⟨true, ⟨(some 37), .build [(.int .i64 (.ofNat 0)), (.int .i64 (.ofNat 0)), (.int .i64 (.ofNat 0))] [(0, 1, (.t 34)), (1, 1, (.c (.int .i64 (.ofNat 0)))), (2, 1, (.t 36))], [3, 5], none⟩⟩,
   ⟨true, ⟨(some 38), .bslice false .dyn 3 1 [(.int .i64 (.ofNat 0)), (.int .i64 (.ofNat 0)), (.int .i64 (.ofNat 0))] [(0, 3, (.t 37))], [6], none⟩⟩,
   ⟨true, ⟨(some 39), .append .dyn 3 24 (.t 32) (.t 38), [1, 7], none⟩⟩,
   ⟨true, ⟨(some 40), .faddr 3 (.t 3), [0, 1, 2, 3, 4, 5, 6, 7, 8], none⟩⟩,
   ⟨false, ⟨none, .store 1 (.t 40) (.t 39), [9, 8, 8, 0, 1, 2, 3, 4, 5, 6, 7, 8], none⟩⟩] [] 2196875772032)))
 (.region [⟨true, ⟨(some 41), .bin .add (.t 28) (.c (.int .i64 (.ofNat 1))), [], none⟩⟩,
   ⟨false, ⟨(some 28), .mov (.t 41), [0], none⟩⟩] [] 2199023255552)))))))
 (.seq (.region [⟨true, ⟨(some 42), .faddr 3 (.t 3), [], none⟩⟩,
   ⟨true, ⟨(some 43), .load none (.t 42), [0], none⟩⟩,
   ⟨true, ⟨(some 44), .mov (.t 0), [], none⟩⟩,
   ⟨true, ⟨(some 45), .bin .add (.t 44) (.c (.int .i64 (.ofNat 1))), [2], none⟩⟩,
   ⟨true, ⟨(some 46), .mov (.t 0), [], none⟩⟩,
   ⟨true, ⟨(some 47), .bin .add (.t 46) (.c (.int .i64 (.ofNat 1))), [4], none⟩⟩,
   ⟨true, ⟨(some 48), .build [(.int .i64 (.ofNat 0)), (.int .i64 (.ofNat 0)), (.int .i64 (.ofNat 0))] [(0, 1, (.t 45)), (1, 1, (.c (.int .i64 (.ofNat 2)))), (2, 1, (.t 47))], [3, 5], none⟩⟩,
   ⟨true, ⟨(some 49), .bslice false .dyn 3 1 [(.int .i64 (.ofNat 0)), (.int .i64 (.ofNat 0)), (.int .i64 (.ofNat 0))] [(0, 3, (.t 48))], [6], none⟩⟩,
   ⟨true, ⟨(some 50), .append .dyn 3 24 (.t 43) (.t 49), [1, 7], none⟩⟩,
   ⟨true, ⟨(some 51), .faddr 3 (.t 3), [0, 1, 2, 3, 4, 5, 6, 7, 8], none⟩⟩,
   ⟨false, ⟨none, .store 1 (.t 51) (.t 50), [9, 8, 8, 0, 1, 2, 3, 4, 5, 6, 7, 8], none⟩⟩] [] 4499201983512576)
 (.seq (.seq (.region [⟨true, ⟨(some 52), .faddr 1 (.t 3), [], none⟩⟩,
   ⟨true, ⟨(some 53), .load none (.t 52), [0], none⟩⟩,
   ⟨true, ⟨(some 54), .mov (.c (.int .i64 (.ofNat 0))), [], none⟩⟩] [] 4503599627370496)
 (.block 2 (.loop (.seq (.region [⟨true, ⟨(some 55), .bin .lss (.t 54) (.t 53), [], none⟩⟩] [] 0)
 (.seq (.cond (.t 55)
  .skip
  (.exit 2))
 (.seq (.block 3 (.seq (.region [⟨true, ⟨(some 56), .mov (.t 54), [], none⟩⟩,
   ⟨true, ⟨(some 8), .mov (.t 56), [0, 0], none⟩⟩] [] 108086391056891904)
 (.region [⟨true, ⟨(some 57), .faddr 2 (.t 3), [], none⟩⟩,
   ⟨true, ⟨(some 58), .load none (.t 57), [0], none⟩⟩,
   ⟨true, ⟨(some 59), .mov (.t 8), [], none⟩⟩,
   ⟨true, ⟨(some 60), .bslice false .dyn 1 1 [(.int .i64 (.ofNat 0))] [(0, 1, (.t 59))], [2], none⟩⟩,
   ⟨true, ⟨(some 61), .append .dyn 1 8 (.t 58) (.t 60), [1, 3], none⟩⟩,
   ⟨true, ⟨(some 62), .faddr 2 (.t 3), [0, 1, 2, 3, 4], none⟩⟩,
   ⟨false, ⟨none, .store 1 (.t 62) (.t 61), [5, 4, 4, 0, 1, 2, 3, 4], none⟩⟩] [] 9079256848778920192)))
 (.region [⟨true, ⟨(some 63), .bin .add (.t 54) (.c (.int .i64 (.ofNat 1))), [], none⟩⟩,
   ⟨false, ⟨(some 54), .mov (.t 63), [0], none⟩⟩] [] 9223372036854775808)))))))
 (.seq (.region [⟨true, ⟨(some 64), .mov (.t 2), [], none⟩⟩,
   ⟨true, ⟨(some 65), .load (some 4) (.t 3), [], none⟩⟩,
   ⟨true, ⟨(some 66), .mov (.t 0), [], none⟩⟩,
   ⟨true, ⟨(some 67), .bin .add (.t 66) (.c (.int .i64 (.ofNat 1))), [2], none⟩⟩,
   ⟨false, ⟨(some 2), .mov (.t 64), [0, 0], none⟩⟩,
   ⟨false, ⟨none, .store 4 (.t 3) (.t 65), [1, 4, 0, 1, 4], none⟩⟩,
   ⟨true, ⟨(some 4), .mov (.c (.int .i64 (.ofNat 1))), [5, 0, 1, 4, 5], none⟩⟩,
   ⟨true, ⟨(some 5), .mov (.t 67), [3, 6, 0, 1, 2, 3, 4, 5, 6], none⟩⟩,
   ⟨true, ⟨(some 6), .mov (.c (.int .i64 (.ofNat 0))), [7, 0, 1, 2, 3, 4, 5, 6, 7], none⟩⟩] [] 276728182703407497217)
 .ret))))))))⟩
def f16 : FFn := ⟨54, [.tmp 4],
 (.seq (.region [⟨true, ⟨(some 2), .box .dyn (.t 0), [], none⟩⟩,
   ⟨true, ⟨(some 3), .box .dyn (.t 1), [], none⟩⟩,
   ⟨true, ⟨(some 4), .mov (.c (.bool false)), [], none⟩⟩] [] 19)
 (.seq (.seq (.region [⟨true, ⟨(some 6), .faddr 0 (.t 2), [], none⟩⟩,
   ⟨true, ⟨(some 7), .load none (.t 6), [0], none⟩⟩,
   ⟨true, ⟨(some 8), .faddr 0 (.t 3), [], none⟩⟩,
   ⟨true, ⟨(some 9), .load none (.t 8), [2], none⟩⟩,
   ⟨true, ⟨(some 10), .call .heap (.f 32) [(.t 7), (.t 9)], [1, 3], none⟩⟩,
   ⟨true, ⟨(some 11), .un .not (.t 10), [4], none⟩⟩,
   ⟨true, ⟨(some 12), .mov (.t 11), [5, 4], none⟩⟩,
   ⟨true, ⟨(some 13), .faddr 1 (.t 2), [6], (some (12, false))⟩⟩,
   ⟨true, ⟨(some 14), .load none (.t 13), [7, 6], (some (12, false))⟩⟩,
   ⟨true, ⟨(some 15), .faddr 1 (.t 3), [6], (some (12, false))⟩⟩,
   ⟨true, ⟨(some 16), .load none (.t 15), [9, 6], (some (12, false))⟩⟩,
   ⟨true, ⟨(some 17), .bin .neq (.t 14) (.t 16), [8, 10, 6], (some (12, false))⟩⟩,
   ⟨true, ⟨(some 18), .pick (.t 12) (.c (.bool true)) (.t 17), [6, 11], none⟩⟩,
   ⟨true, ⟨(some 19), .mov (.t 18), [12, 6], none⟩⟩,
   ⟨true, ⟨(some 20), .faddr 2 (.t 2), [13], (some (19, false))⟩⟩,
   ⟨true, ⟨(some 21), .load none (.t 20), [14, 13], (some (19, false))⟩⟩,
   ⟨true, ⟨(some 22), .faddr 2 (.t 3), [13], (some (19, false))⟩⟩,
   ⟨true, ⟨(some 23), .load none (.t 22), [16, 13], (some (19, false))⟩⟩,
   ⟨true, ⟨(some 24), .call .heap (.f 32) [(.t 21), (.t 23)], [15, 17, 13, 13], (some (19, false))⟩⟩,
   ⟨true, ⟨(some 25), .un .not (.t 24), [18, 13], (some (19, false))⟩⟩,
   ⟨true, ⟨(some 26), .pick (.t 19) (.c (.bool true)) (.t 25), [13, 19], none⟩⟩,
   ⟨true, ⟨(some 27), .mov (.t 26), [20, 18], none⟩⟩,
   ⟨true, ⟨(some 28), .faddr 3 (.t 2), [21], (some (27, false))⟩⟩,
   ⟨true, ⟨(some 29), .load none (.t 28), [22, 21], (some (27, false))⟩⟩,
   ⟨true, ⟨(some 30), .len 1 (.t 29), [23, 21], (some (27, false))⟩⟩,
   ⟨true, ⟨(some 31), .faddr 3 (.t 3), [21], (some (27, false))⟩⟩,
   ⟨true, ⟨(some 32), .load none (.t 31), [25, 21], (some (27, false))⟩⟩,
   ⟨true, ⟨(some 33), .len 1 (.t 32), [26, 21], (some (27, false))⟩⟩,
   ⟨true, ⟨(some 34), .bin .neq (.t 30) (.t 33), [24, 27, 21], (some (27, false))⟩⟩,
   ⟨true, ⟨(some 35), .pick (.t 27) (.c (.bool true)) (.t 34), [21, 28], none⟩⟩] [] 34359738304)
 (.cond (.t 35)
  (.seq (.region [⟨true, ⟨(some 4), .mov (.c (.bool false)), [], none⟩⟩] [] 34359738380)
  .ret)
  .skip))
 (.seq (.seq (.region [⟨true, ⟨(some 5), .mov (.c (.int .i64 (.ofNat 0))), [], none⟩⟩] [] 34359738384)
 (.block 0 (.loop (.seq (.seq (.region [⟨true, ⟨(some 36), .mov (.t 5), [], none⟩⟩,
   ⟨true, ⟨(some 37), .faddr 3 (.t 2), [], none⟩⟩,
   ⟨true, ⟨(some 38), .load none (.t 37), [1], none⟩⟩,
   ⟨true, ⟨(some 39), .len 1 (.t 38), [2], none⟩⟩,
   ⟨true, ⟨(some 40), .bin .lss (.t 36) (.t 39), [0, 3], none⟩⟩] [] 1030792151040)
 (.cond (.t 40)
  .skip
  (.exit 0)))
 (.seq (.block 1 (.seq (.region [⟨true, ⟨(some 43), .faddr 3 (.t 2), [], none⟩⟩,
   ⟨true, ⟨(some 44), .load none (.t 43), [0], none⟩⟩,
   ⟨true, ⟨(some 45), .mov (.t 5), [], none⟩⟩,
   ⟨true, ⟨(some 46), .iaddr none 3 (.t 44) (.t 45), [1, 2], none⟩⟩,
   ⟨true, ⟨(some 47), .load (some 3) (.t 46), [3], none⟩⟩,
   ⟨true, ⟨(some 48), .faddr 3 (.t 3), [], none⟩⟩,
   ⟨true, ⟨(some 49), .load none (.t 48), [5], none⟩⟩,
   ⟨true, ⟨(some 50), .mov (.t 5), [], none⟩⟩,
   ⟨true, ⟨(some 51), .iaddr none 3 (.t 49) (.t 50), [6, 7], none⟩⟩,
   ⟨true, ⟨(some 52), .load (some 3) (.t 51), [8], none⟩⟩,
   ⟨true, ⟨(some 53), .eq (.flat true [.i, .i, .i]) true (.t 47) (.t 52), [4, 9], none⟩⟩] [] 8999502673346560)
 (.cond (.t 53)
  (.seq (.region [⟨true, ⟨(some 4), .mov (.c (.bool false)), [], none⟩⟩] [] 9007199254741036)
  .ret)
  .skip)))
 (.region [⟨true, ⟨(some 41), .mov (.t 5), [], none⟩⟩,
   ⟨true, ⟨(some 42), .bin .add (.t 41) (.c (.int .i64 (.ofNat 1))), [0], none⟩⟩,
   ⟨false, ⟨(some 5), .mov (.t 42), [1, 0, 1], none⟩⟩] [] 9013796324507664))))))
 (.seq (.region [⟨true, ⟨(some 4), .mov (.c (.bool true)), [], none⟩⟩] [] 44)
 .ret))))⟩
def f17 : FFn := ⟨24, [.tmp 4, .tmp 5, .tmp 6],
 (.seq (.region [⟨true, ⟨(some 2), .box .dyn (.t 0), [], none⟩⟩,
   ⟨true, ⟨(some 4), .mov (.c (.int .i64 (.ofNat 0))), [], none⟩⟩,
   ⟨true, ⟨(some 5), .mov (.c (.bool false)), [1], none⟩⟩,
   ⟨true, ⟨(some 6), .mov (.c (.int .i64 (.ofNat 0))), [2], none⟩⟩] [] 113)
 (.seq (.region [⟨true, ⟨(some 9), .load (some 5) (.t 2), [], none⟩⟩,
   ⟨true, ⟨(some 10), .mov (.t 1), [], none⟩⟩,
   ⟨true, ⟨(some 11), .call .heap (.f 59) [(.t 9), (.t 10)], [0, 1], none⟩⟩,
   ⟨true, ⟨(some 8), .mov (.t 11), [2], none⟩⟩,
   ⟨true, ⟨(some 12), .extract 0 (.t 8), [3], none⟩⟩,
   ⟨true, ⟨(some 13), .extract 1 (.t 8), [3], none⟩⟩,
   ⟨true, ⟨(some 7), .mov (.t 12), [4, 2, 0, 1, 2, 3, 4], none⟩⟩,
   ⟨true, ⟨(some 6), .mov (.t 13), [5, 6, 0, 1, 2, 3, 4, 5, 6], none⟩⟩] [] 16134)
 (.seq (.seq (.region [⟨true, ⟨(some 14), .mov (.t 6), [], none⟩⟩,
   ⟨true, ⟨(some 15), .bin .neq (.t 14) (.c (.int .i64 (.ofNat 0))), [0], none⟩⟩] [] 16384)
 (.cond (.t 15)
  (.seq (.region [⟨true, ⟨(some 16), .mov (.t 6), [], none⟩⟩,
    ⟨true, ⟨(some 4), .mov (.c (.int .i64 (.ofNat 0))), [], none⟩⟩,
    ⟨true, ⟨(some 5), .mov (.c (.bool false)), [1, 1], none⟩⟩,
    ⟨false, ⟨(some 6), .mov (.t 16), [0, 2, 0, 1, 2], none⟩⟩] [] 98432)
  .ret)
  .skip))
 (.seq (.region [⟨true, ⟨(some 18), .mov (.t 7), [], none⟩⟩,
   ⟨true, ⟨(some 19), .call .heap (.f 60) [(.t 18)], [0], none⟩⟩,
   ⟨true, ⟨(some 17), .mov (.t 19), [1], none⟩⟩,
   ⟨true, ⟨(some 20), .extract 0 (.t 17), [2], none⟩⟩,
   ⟨true, ⟨(some 21), .extract 1 (.t 17), [2], none⟩⟩,
   ⟨false, ⟨(some 4), .mov (.t 20), [3, 1, 0, 1, 2, 3], none⟩⟩,
   ⟨false, ⟨(some 5), .mov (.t 21), [4, 5, 0, 1, 2, 3, 4, 5], none⟩⟩] [] 4096192)
 (.seq (.region [⟨true, ⟨(some 22), .mov (.t 4), [], none⟩⟩,
   ⟨true, ⟨(some 23), .mov (.t 5), [], none⟩⟩,
   ⟨false, ⟨(some 4), .mov (.t 22), [0, 0], none⟩⟩,
   ⟨false, ⟨(some 5), .mov (.t 23), [1, 2, 0, 1, 2], none⟩⟩,
   ⟨true, ⟨(some 6), .mov (.c (.int .i64 (.ofNat 0))), [3, 0, 1, 2, 3], none⟩⟩] [] 12582912)
 .ret)))))⟩
def f18 : FFn := ⟨124, [.cell 4 (some 5), .tmp 5],
 (.seq (.region [⟨true, ⟨(some 4), .alloc .dyn (.agg [(.int .i64 (.ofNat 0)), (.int .i64 (.ofNat 0)), (.int .i64 (.ofNat 0)), (.int .i64 (.ofNat 0)), .nilsl]), [], none⟩⟩,
   ⟨true, ⟨(some 5), .mov (.c (.int .i64 (.ofNat 0))), [], none⟩⟩] [] 32)
 (.seq (.seq (.region [⟨true, ⟨(some 14), .mov (.t 0), [], none⟩⟩,
   ⟨true, ⟨(some 15), .mov (.t 1), [], none⟩⟩,
   ⟨true, ⟨(some 16), .call .heap (.f 34) [(.t 14), (.t 15)], [0, 1], none⟩⟩,
   ⟨true, ⟨(some 6), .mov (.t 16), [2, 2, 0, 1, 2], none⟩⟩] [] 114688)
 (.seq (.region [⟨true, ⟨(some 17), .mov (.t 6), [], none⟩⟩,
   ⟨true, ⟨(some 18), .bin .neq (.t 17) (.c (.int .i64 (.ofNat 0))), [0], none⟩⟩] [] 131072)
 (.cond (.t 18)
  (.seq (.region [⟨true, ⟨(some 19), .build [(.int .i64 (.ofNat 0)), (.int .i64 (.ofNat 0)), (.int .i64 (.ofNat 0)), (.int .i64 (.ofNat 0)), .nilsl] [], [], none⟩⟩,
    ⟨true, ⟨(some 20), .mov (.t 6), [], none⟩⟩,
    ⟨false, ⟨none, .store 5 (.t 4) (.t 19), [0, 0], none⟩⟩,
    ⟨true, ⟨(some 5), .mov (.t 20), [1, 2, 0, 1, 2], none⟩⟩] [] 1835075)
  .ret)
  .skip)))
 (.seq (.region [⟨true, ⟨(some 21), .mov (.t 1), [], none⟩⟩,
   ⟨true, ⟨(some 7), .mov (.t 21), [0, 0], none⟩⟩] [] 2359394)
 (.seq (.seq (.region [⟨true, ⟨(some 22), .mov (.t 0), [], none⟩⟩] [] 1)
 (.block 0 (.seq (.region [⟨true, ⟨(some 24), .bin .eql (.t 22) (.c (.int .i64 (.ofNat 1))), [], none⟩⟩,
   ⟨true, ⟨(some 23), .mov (.t 24), [0], none⟩⟩] [] 16777216)
 (.cond (.t 23)
  (.seq (.region [⟨true, ⟨(some 25), .build [.nilsl, (.int .i64 (.ofNat 0))] [(1, 1, (.c (.int .i64 (.ofNat 0))))], [], none⟩⟩,
    ⟨true, ⟨(some 8), .alloc .dyn (.agg [.nilsl, (.int .i64 (.ofNat 0))]), [], none⟩⟩,
    ⟨false, ⟨none, .store 2 (.t 8) (.t 25), [1, 0, 0, 1], none⟩⟩] [] 46137344)
  (.seq (.seq (.region [⟨true, ⟨(some 26), .mov (.t 7), [], none⟩⟩,
    ⟨true, ⟨(some 27), .mov (.c (.int .i64 (.ofNat 0))), [], none⟩⟩] [] 0)
  (.block 1 (.loop (.seq (.region [⟨true, ⟨(some 28), .bin .lss (.t 27) (.t 26), [], none⟩⟩] [] 0)
  (.seq (.cond (.t 28)
   .skip
   (.exit 1))
  (.seq (.block 2 (.region [⟨true, ⟨(some 29), .faddr 0 (.t 8), [], none⟩⟩,
    ⟨true, ⟨(some 30), .load none (.t 29), [0], none⟩⟩,
    ⟨true, ⟨(some 31), .bslice false .dyn 1 2 [(.int .i64 (.ofNat 0)), (.int .i64 (.ofNat 0))] [(0, 1, (.c (.int .i64 (.ofNat 0)))), (1, 1, (.c (.int .i64 (.ofNat 1))))], [], none⟩⟩,
    ⟨true, ⟨(some 32), .append .dyn 1 8 (.t 30) (.t 31), [1, 2], none⟩⟩,
    ⟨true, ⟨(some 33), .faddr 0 (.t 8), [0, 1, 2, 3], none⟩⟩,
    ⟨false, ⟨none, .store 1 (.t 33) (.t 32), [4, 3, 3, 0, 1, 2, 3], none⟩⟩] [] 16911433728))
  (.region [⟨true, ⟨(some 34), .bin .add (.t 27) (.c (.int .i64 (.ofNat 1))), [], none⟩⟩,
    ⟨false, ⟨(some 27), .mov (.t 34), [0], none⟩⟩] [] 17179869184)))))))
  (.seq (.region [⟨true, ⟨(some 35), .mov (.t 7), [], none⟩⟩,
    ⟨true, ⟨(some 36), .bin .add (.t 35) (.c (.int .i64 (.ofNat 1))), [0], none⟩⟩,
    ⟨true, ⟨(some 37), .bin .mul (.c (.int .i64 (.ofNat 4))) (.t 36), [1], none⟩⟩,
    ⟨true, ⟨(some 38), .mov (.t 7), [], none⟩⟩,
    ⟨true, ⟨(some 39), .bin .mul (.c (.int .i64 (.ofNat 4))) (.t 38), [3], none⟩⟩,
    ⟨true, ⟨(some 40), .bin .add (.t 39) (.c (.int .i64 (.ofNat 2))), [4], none⟩⟩,
    ⟨true, ⟨(some 41), .build [.nilsl, (.int .i64 (.ofNat 0))] [(1, 1, (.c (.int .i64 (.ofNat 2))))], [], none⟩⟩,
    ⟨true, ⟨(some 42), .load (some 2) (.t 8), [], none⟩⟩,
    ⟨true, ⟨(some 43), .bslice false .dyn 2 2 [.nilsl, (.int .i64 (.ofNat 0)), .nilsl, (.int .i64 (.ofNat 0))] [(0, 2, (.t 41)), (2, 2, (.t 42))], [6, 7], none⟩⟩,
    ⟨true, ⟨(some 44), .call .heap (.f 61) [(.t 37), (.t 40), (.c (.int .i64 (.ofNat 2))), (.t 43)], [2, 5, 8], none⟩⟩,
    ⟨false, ⟨none, .store 5 (.t 4) (.t 44), [9, 9, 0, 1, 2, 3, 4, 5, 6, 7, 8, 9], none⟩⟩,
    ⟨true, ⟨(some 5), .mov (.c (.int .i64 (.ofNat 0))), [10, 0, 1, 2, 3, 4, 5, 6, 7, 8, 9, 10], none⟩⟩] [] 35150213677440)
  .ret)))
  (.seq (.region [⟨true, ⟨(some 46), .bin .eql (.t 22) (.c (.int .i64 (.ofNat 2))), [], none⟩⟩,
    ⟨true, ⟨(some 45), .mov (.t 46), [0], none⟩⟩] [] 70368752566272)
  (.cond (.t 45)
   (.seq (.region [⟨true, ⟨(some 47), .mov (.t 7), [], none⟩⟩,
     ⟨true, ⟨(some 48), .bin .mul (.c (.int .i64 (.ofNat 2))) (.t 47), [0], none⟩⟩,
     ⟨true, ⟨(some 49), .bin .sub (.t 48) (.c (.int .i64 (.ofNat 1))), [1], none⟩⟩,
     ⟨true, ⟨(some 50), .call .heap (.f 62) [(.c (.int .i64 (.ofNat 2))), (.t 49)], [2], none⟩⟩,
     ⟨true, ⟨(some 51), .mov (.t 7), [], none⟩⟩,
     ⟨true, ⟨(some 52), .bin .sub (.t 51) (.c (.int .i64 (.ofNat 1))), [4], none⟩⟩,
     ⟨true, ⟨(some 53), .call .heap (.f 62) [(.c (.int .i64 (.ofNat 3))), (.t 52)], [5, 3], none⟩⟩,
     ⟨true, ⟨(some 54), .bin .mul (.c (.int .i64 (.ofNat 2))) (.t 53), [6], none⟩⟩,
     ⟨true, ⟨(some 9), .mov (.t 50), [3, 6, 0, 1, 2, 3], none⟩⟩,
     ⟨true, ⟨(some 10), .mov (.t 54), [7, 8, 0, 1, 2, 3, 4, 5, 6, 7, 8], none⟩⟩] [] 35923243906891776)
   (.seq (.region [⟨true, ⟨(some 55), .mov (.t 9), [], none⟩⟩,
     ⟨true, ⟨(some 56), .mov (.t 10), [], none⟩⟩,
     ⟨true, ⟨(some 57), .mov (.t 9), [], none⟩⟩,
     ⟨true, ⟨(some 58), .mov (.t 10), [], none⟩⟩,
     ⟨true, ⟨(some 59), .bin .sub (.t 57) (.t 58), [2, 3], none⟩⟩,
     ⟨true, ⟨(some 60), .mov (.t 7), [], none⟩⟩,
     ⟨true, ⟨(some 61), .bin .mul (.c (.int .i64 (.ofNat 2))) (.t 60), [5], none⟩⟩,
     ⟨true, ⟨(some 62), .bin .sub (.t 61) (.c (.int .i64 (.ofNat 2))), [6], none⟩⟩,
     ⟨true, ⟨(some 63), .build [.nilsl, (.int .i64 (.ofNat 0))] [(1, 1, (.t 62))], [7], none⟩⟩,
     ⟨true, ⟨(some 64), .bslice false .dyn 1 2 [(.int .i64 (.ofNat 0)), (.int .i64 (.ofNat 0))] [(0, 1, (.c (.int .i64 (.ofNat 0)))), (1, 1, (.c (.int .i64 (.ofNat 1))))], [], none⟩⟩,
     ⟨true, ⟨(some 65), .build [.nilsl, (.int .i64 (.ofNat 0))] [(0, 1, (.t 64)), (1, 1, (.c (.int .i64 (.ofNat 0))))], [9], none⟩⟩,
     ⟨true, ⟨(some 66), .bslice false .dyn 2 2 [.nilsl, (.int .i64 (.ofNat 0)), .nilsl, (.int .i64 (.ofNat 0))] [(0, 2, (.t 63)), (2, 2, (.t 65))], [8, 10], none⟩⟩,
     ⟨true, ⟨(some 67), .call .heap (.f 61) [(.t 55), (.t 56), (.t 59), (.t 66)], [0, 1, 4, 11], none⟩⟩,
     ⟨false, ⟨none, .store 5 (.t 4) (.t 67), [12, 12, 0, 1, 2, 3, 4, 5, 6, 7, 8, 9, 10, 11, 12], none⟩⟩,
     ⟨true, ⟨(some 5), .mov (.c (.int .i64 (.ofNat 0))), [13, 0, 1, 2, 3, 4, 5, 6, 7, 8, 9, 10, 11, 12, 13], none⟩⟩] [] 295111876382333863552)
   .ret))
   (.seq (.region [⟨true, ⟨(some 69), .bin .eql (.t 22) (.c (.int .i64 (.ofNat 3))), [], none⟩⟩,
     ⟨true, ⟨(some 68), .mov (.t 69), [0], none⟩⟩] [] 590295845543077740544)
   (.cond (.t 68)
    (.seq (.region [⟨true, ⟨(some 70), .bslice false .dyn 1 3 [(.int .i64 (.ofNat 0)), (.int .i64 (.ofNat 0)), (.int .i64 (.ofNat 0))] [(0, 1, (.c (.int .i64 (.ofNat 6)))), (1, 1, (.c (.int .i64 (.ofNat 14)))), (2, 1, (.c (.int .i64 (.ofNat 34))))], [], none⟩⟩,
      ⟨true, ⟨(some 71), .mov (.t 7), [], none⟩⟩,
      ⟨true, ⟨(some 72), .bin .sub (.t 71) (.c (.int .i64 (.ofNat 2))), [1], none⟩⟩,
      ⟨true, ⟨(some 73), .iaddr none 1 (.t 70) (.t 72), [0, 2], none⟩⟩,
      ⟨true, ⟨(some 74), .load none (.t 73), [3], none⟩⟩,
      ⟨true, ⟨(some 11), .mov (.t 74), [4, 0, 1, 2, 3, 4], none⟩⟩] [] 36893488147419107426304)
    (.seq (.region [⟨true, ⟨(some 75), .mov (.t 7), [], none⟩⟩,
      ⟨true, ⟨(some 76), .bin .sub (.t 75) (.c (.int .i64 (.ofNat 1))), [0], none⟩⟩,
      ⟨true, ⟨(some 77), .bin .mul (.c (.int .i64 (.ofNat 3))) (.t 76), [1], none⟩⟩,
      ⟨true, ⟨(some 78), .build [.nilsl, (.int .i64 (.ofNat 0))] [(1, 1, (.t 77))], [2], none⟩⟩,
      ⟨true, ⟨(some 12), .alloc .dyn (.agg [.nilsl, (.int .i64 (.ofNat 0))]), [], none⟩⟩,
      ⟨false, ⟨none, .store 2 (.t 12) (.t 78), [4, 3, 0, 1, 2, 3, 4], none⟩⟩] [] 566683977944357425643520)
    (.seq (.seq (.region [⟨true, ⟨(some 79), .mov (.t 7), [], none⟩⟩,
      ⟨true, ⟨(some 80), .bin .sub (.t 79) (.c (.int .i64 (.ofNat 1))), [0], none⟩⟩,
      ⟨true, ⟨(some 81), .mov (.c (.int .i64 (.ofNat 0))), [], none⟩⟩] [] 604462909807314587353216)
    (.block 3 (.loop (.seq (.region [⟨true, ⟨(some 82), .bin .lss (.t 81) (.t 80), [], none⟩⟩] [] 0)
    (.seq (.cond (.t 82)
     .skip
     (.exit 3))
    (.seq (.block 4 (.seq (.region [⟨true, ⟨(some 83), .mov (.t 81), [], none⟩⟩,
      ⟨true, ⟨(some 13), .mov (.t 83), [0, 0], none⟩⟩] [] 14507109835375550096474112)
    (.region [⟨true, ⟨(some 84), .faddr 0 (.t 12), [], none⟩⟩,
      ⟨true, ⟨(some 85), .load none (.t 84), [0], none⟩⟩,
      ⟨true, ⟨(some 86), .mov (.t 13), [], none⟩⟩,
      ⟨true, ⟨(some 87), .bin .mul (.c (.int .i64 (.ofNat 3))) (.t 86), [2], none⟩⟩,
      ⟨true, ⟨(some 88), .bslice false .dyn 1 1 [(.int .i64 (.ofNat 0))] [(0, 1, (.t 87))], [3], none⟩⟩,
      ⟨true, ⟨(some 89), .append .dyn 1 8 (.t 85) (.t 88), [1, 4], none⟩⟩,
      ⟨true, ⟨(some 90), .faddr 0 (.t 12), [0, 1, 2, 3, 4, 5], none⟩⟩,
      ⟨false, ⟨none, .store 1 (.t 90) (.t 89), [6, 5, 5, 0, 1, 2, 3, 4, 5], none⟩⟩] [] 2456537265456926483002957824)))
    (.region [⟨true, ⟨(some 91), .bin .add (.t 81) (.c (.int .i64 (.ofNat 1))), [], none⟩⟩,
      ⟨false, ⟨(some 81), .mov (.t 91), [0], none⟩⟩] [] 2475880078570760549798248448)))))))
    (.seq (.region [⟨true, ⟨(some 92), .mov (.t 11), [], none⟩⟩,
      ⟨true, ⟨(some 93), .mov (.t 11), [], none⟩⟩,
      ⟨true, ⟨(some 94), .bin .sub (.t 93) (.c (.int .i64 (.ofNat 1))), [1], none⟩⟩,
      ⟨true, ⟨(some 95), .load (some 2) (.t 12), [], none⟩⟩,
      ⟨true, ⟨(some 96), .bslice false .dyn 2 1 [.nilsl, (.int .i64 (.ofNat 0))] [(0, 2, (.t 95))], [3], none⟩⟩,
      ⟨true, ⟨(some 97), .call .heap (.f 61) [(.t 92), (.t 94), (.c (.int .i64 (.ofNat 0))), (.t 96)], [0, 2, 4], none⟩⟩,
      ⟨false, ⟨none, .store 5 (.t 4) (.t 97), [5, 5, 0, 1, 2, 3, 4, 5], none⟩⟩,
      ⟨true, ⟨(some 5), .mov (.c (.int .i64 (.ofNat 0))), [6, 0, 1, 2, 3, 4, 5, 6], none⟩⟩] [] 311964516677374673162103429120)
    .ret))))
    (.seq (.region [⟨true, ⟨(some 99), .bin .eql (.t 22) (.c (.int .i64 (.ofNat 4))), [], none⟩⟩,
      ⟨true, ⟨(some 98), .mov (.t 99), [0], none⟩⟩] [] 633825300409262605927708622848)
    (.cond (.t 98)
     (.seq (.region [⟨true, ⟨(some 100), .mov (.t 7), [], none⟩⟩,
       ⟨true, ⟨(some 101), .call .heap (.f 62) [(.c (.int .i64 (.ofNat 2))), (.t 100)], [0], none⟩⟩,
       ⟨true, ⟨(some 102), .mov (.t 7), [], none⟩⟩,
       ⟨true, ⟨(some 103), .bin .add (.t 102) (.c (.int .i64 (.ofNat 1))), [2], none⟩⟩,
       ⟨true, ⟨(some 104), .mov (.t 7), [], none⟩⟩,
       ⟨true, ⟨(some 105), .call .heap (.f 62) [(.c (.int .i64 (.ofNat 2))), (.t 104)], [4, 1], none⟩⟩,
       ⟨true, ⟨(some 106), .mov (.t 7), [], none⟩⟩,
       ⟨true, ⟨(some 107), .bin .sub (.t 105) (.t 106), [5, 6], none⟩⟩,
       ⟨true, ⟨(some 108), .bin .sub (.t 107) (.c (.int .i64 (.ofNat 1))), [7], none⟩⟩,
       ⟨true, ⟨(some 109), .bslice false .dyn 1 1 [(.int .i64 (.ofNat 0))] [(0, 1, (.c (.int .i64 (.ofNat 0))))], [], none⟩⟩,
       ⟨true, ⟨(some 110), .build [.nilsl, (.int .i64 (.ofNat 0))] [(0, 1, (.t 109)), (1, 1, (.c (.int .i64 (.ofNat 2))))], [9], none⟩⟩,
       ⟨true, ⟨(some 111), .bslice false .dyn 2 1 [.nilsl, (.int .i64 (.ofNat 0))] [(0, 2, (.t 110))], [10], none⟩⟩,
       ⟨true, ⟨(some 112), .call .heap (.f 61) [(.t 101), (.t 103), (.t 108), (.t 111)], [1, 3, 8, 11, 5], none⟩⟩,
       ⟨false, ⟨none, .store 5 (.t 4) (.t 112), [12, 12, 0, 1, 2, 3, 4, 5, 6, 7, 8, 9, 10, 11, 12], none⟩⟩,
       ⟨true, ⟨(some 5), .mov (.c (.int .i64 (.ofNat 0))), [13, 0, 1, 2, 3, 4, 5, 6, 7, 8, 9, 10, 11, 12, 13], none⟩⟩] [] 10383642979119484085009870131036288)
     .ret)
     .skip))))))))))
 (.seq (.region [⟨true, ⟨(some 113), .mov (.t 7), [], none⟩⟩,
   ⟨true, ⟨(some 114), .mov (.t 7), [], none⟩⟩,
   ⟨true, ⟨(some 115), .call .heap (.f 62) [(.c (.int .i64 (.ofNat 2))), (.t 114)], [1], none⟩⟩,
   ⟨true, ⟨(some 116), .bin .mul (.t 113) (.t 115), [0, 2], none⟩⟩,
   ⟨true, ⟨(some 117), .mov (.t 7), [], none⟩⟩,
   ⟨true, ⟨(some 118), .mov (.t 7), [], none⟩⟩,
   ⟨true, ⟨(some 119), .call .heap (.f 62) [(.c (.int .i64 (.ofNat 2))), (.t 118)], [5, 2], none⟩⟩,
   ⟨true, ⟨(some 120), .bin .mul (.t 117) (.t 119), [4, 6], none⟩⟩,
   ⟨true, ⟨(some 121), .build [.nilsl, (.int .i64 (.ofNat 0))] [(1, 1, (.c (.int .i64 (.ofNat 2))))], [], none⟩⟩,
   ⟨true, ⟨(some 122), .bslice false .dyn 2 1 [.nilsl, (.int .i64 (.ofNat 0))] [(0, 2, (.t 121))], [8], none⟩⟩,
   ⟨true, ⟨(some 123), .call .heap (.f 61) [(.t 116), (.t 120), (.c (.int .i64 (.ofNat 0))), (.t 122)], [3, 7, 9, 6], none⟩⟩,
   ⟨false, ⟨none, .store 5 (.t 4) (.t 123), [10, 10, 0, 1, 2, 3, 4, 5, 6, 7, 8, 9, 10], none⟩⟩,
   ⟨false, ⟨(some 5), .mov (.c (.int .i64 (.ofNat 0))), [11, 0, 1, 2, 3, 4, 5, 6, 7, 8, 9, 10, 11], none⟩⟩] [] 21257263655754234368261202346002874496)
 .ret)))))⟩
def f31 : FFn := ⟨70, [.cell 2 (some 4), .tmp 3],
 (.seq (.region [⟨true, ⟨(some 2), .alloc .dyn (.agg [(.int .i64 (.ofNat 0)), (.int .i64 (.ofNat 0)), .nilsl, .nilsl]), [], none⟩⟩,
   ⟨true, ⟨(some 3), .mov (.c (.int .i64 (.ofNat 0))), [], none⟩⟩] [] 8)
 (.seq (.seq (.region [⟨true, ⟨(some 9), .mov (.t 0), [], none⟩⟩,
   ⟨true, ⟨(some 10), .bin .lss (.t 9) (.c (.int .i64 (.ofNat 2))), [0], none⟩⟩,
   ⟨true, ⟨(some 11), .mov (.t 10), [1], none⟩⟩,
   ⟨true, ⟨(some 12), .mov (.t 0), [2], (some (11, false))⟩⟩,
   ⟨true, ⟨(some 13), .bin .gtr (.t 12) (.c (.int .i64 (.ofNat 3))), [3, 2], (some (11, false))⟩⟩,
   ⟨true, ⟨(some 14), .pick (.t 11) (.c (.bool true)) (.t 13), [2, 4], none⟩⟩] [] 15872)
 (.cond (.t 14)
  (.seq (.region [⟨true, ⟨(some 15), .build [(.int .i64 (.ofNat 0)), (.int .i64 (.ofNat 0)), .nilsl, .nilsl] [], [], none⟩⟩,
    ⟨false, ⟨none, .store 4 (.t 2) (.t 15), [0, 0], none⟩⟩,
    ⟨true, ⟨(some 3), .mov (.c (.int .i64 (.ofNat 2))), [1, 0, 1], none⟩⟩] [] 49153)
  .ret)
  .skip))
 (.seq (.region [⟨true, ⟨(some 16), .bslice false .dyn 1 2 [(.int .i64 (.ofNat 0)), (.int .i64 (.ofNat 0))] [(0, 1, (.c (.int .i64 (.ofNat 6)))), (1, 1, (.c (.int .i64 (.ofNat 14))))], [], none⟩⟩,
   ⟨true, ⟨(some 17), .mov (.t 0), [], none⟩⟩,
   ⟨true, ⟨(some 18), .bin .sub (.t 17) (.c (.int .i64 (.ofNat 2))), [1], none⟩⟩,
   ⟨true, ⟨(some 19), .iaddr none 1 (.t 16) (.t 18), [0, 2], none⟩⟩,
   ⟨true, ⟨(some 20), .load none (.t 19), [3], none⟩⟩,
   ⟨true, ⟨(some 21), .build [(.int .i64 (.ofNat 0)), (.int .i64 (.ofNat 0)), .nilsl, .nilsl] [(0, 1, (.t 20)), (1, 1, (.c (.int .i64 (.ofNat 1))))], [4], none⟩⟩,
   ⟨true, ⟨(some 4), .alloc .dyn (.agg [(.int .i64 (.ofNat 0)), (.int .i64 (.ofNat 0)), .nilsl, .nilsl]), [], none⟩⟩,
   ⟨false, ⟨none, .store 4 (.t 4) (.t 21), [6, 5, 0, 1, 2, 3, 4, 5, 6], none⟩⟩] [] 4145160)
 (.seq (.seq (.region [⟨true, ⟨(some 22), .mov (.t 0), [], none⟩⟩,
   ⟨true, ⟨(some 23), .mov (.c (.int .i64 (.ofNat 0))), [], none⟩⟩] [] 0)
 (.block 0 (.loop (.seq (.region [⟨true, ⟨(some 24), .bin .lss (.t 23) (.t 22), [], none⟩⟩] [] 0)
 (.seq (.cond (.t 24)
  .skip
  (.exit 0))
 (.seq (.block 1 (.seq (.region [⟨true, ⟨(some 25), .mov (.t 23), [], none⟩⟩,
   ⟨true, ⟨(some 5), .mov (.t 25), [0, 0], none⟩⟩] [] 50331648)
 (.seq (.region [⟨true, ⟨(some 26), .faddr 2 (.t 4), [], none⟩⟩,
   ⟨true, ⟨(some 27), .load none (.t 26), [0], none⟩⟩,
   ⟨true, ⟨(some 28), .mov (.t 5), [], none⟩⟩,
   ⟨true, ⟨(some 29), .bin .mul (.c (.int .i64 (.ofNat 3))) (.t 28), [2], none⟩⟩,
   ⟨true, ⟨(some 30), .bslice false .dyn 1 1 [(.int .i64 (.ofNat 0))] [(0, 1, (.t 29))], [3], none⟩⟩,
   ⟨true, ⟨(some 31), .append .dyn 1 8 (.t 27) (.t 30), [1, 4], none⟩⟩,
   ⟨true, ⟨(some 32), .faddr 2 (.t 4), [0, 1, 2, 3, 4, 5], none⟩⟩,
   ⟨false, ⟨none, .store 1 (.t 32) (.t 31), [6, 5, 5, 0, 1, 2, 3, 4, 5], none⟩⟩] [] 8522825728)
 (.seq (.region [⟨true, ⟨(some 33), .mov (.t 0), [], none⟩⟩,
   ⟨true, ⟨(some 34), .bin .mul (.c (.int .i64 (.ofNat 3))) (.t 33), [0], none⟩⟩,
   ⟨true, ⟨(some 35), .mkslice .dyn 1 8 [(.int .i64 (.ofNat 0))] (.t 34) (.t 34), [1, 1], none⟩⟩,
   ⟨true, ⟨(some 6), .mov (.t 35), [2, 0, 1, 2], none⟩⟩] [] 60129542144)
 (.seq (.seq (.region [⟨true, ⟨(some 36), .mov (.t 5), [], none⟩⟩,
   ⟨true, ⟨(some 37), .bin .mul (.c (.int .i64 (.ofNat 3))) (.t 36), [0], none⟩⟩,
   ⟨true, ⟨(some 38), .mov (.t 5), [], none⟩⟩,
   ⟨true, ⟨(some 39), .bin .mul (.c (.int .i64 (.ofNat 3))) (.t 38), [2], none⟩⟩,
   ⟨true, ⟨(some 40), .bin .add (.t 39) (.c (.int .i64 (.ofNat 1))), [3], none⟩⟩,
   ⟨true, ⟨(some 41), .mov (.t 5), [], none⟩⟩,
   ⟨true, ⟨(some 42), .bin .mul (.c (.int .i64 (.ofNat 3))) (.t 41), [5], none⟩⟩,
   ⟨true, ⟨(some 43), .bin .add (.t 42) (.c (.int .i64 (.ofNat 2))), [6], none⟩⟩,
   ⟨true, ⟨(some 44), .mov (.t 5), [], none⟩⟩,
   ⟨true, ⟨(some 45), .mov (.t 0), [], none⟩⟩,
   ⟨true, ⟨(some 46), .bin .add (.t 44) (.t 45), [8, 9], none⟩⟩,
   ⟨true, ⟨(some 47), .bin .sub (.t 46) (.c (.int .i64 (.ofNat 1))), [10], none⟩⟩,
   ⟨true, ⟨(some 48), .mov (.t 0), [], none⟩⟩,
   ⟨true, ⟨(some 49), .bin .rem (.t 47) (.t 48), [11, 12], none⟩⟩,
   ⟨true, ⟨(some 50), .bin .mul (.c (.int .i64 (.ofNat 3))) (.t 49), [13], none⟩⟩,
   ⟨true, ⟨(some 51), .bin .add (.t 50) (.c (.int .i64 (.ofNat 2))), [14], none⟩⟩,
   ⟨true, ⟨(some 52), .bslice false .dyn 1 4 [(.int .i64 (.ofNat 0)), (.int .i64 (.ofNat 0)), (.int .i64 (.ofNat 0)), (.int .i64 (.ofNat 0))] [(0, 1, (.t 37)), (1, 1, (.t 40)), (2, 1, (.t 43)), (3, 1, (.t 51))], [1, 4, 7, 15], none⟩⟩,
   ⟨true, ⟨(some 53), .len 1 (.t 52), [16], none⟩⟩,
   ⟨true, ⟨(some 54), .mov (.c (.int .i64 (.ofNat 0))), [], none⟩⟩] [] 4503530907893792)
 (.block 2 (.loop (.seq (.region [⟨true, ⟨(some 55), .bin .lss (.t 54) (.t 53), [], none⟩⟩] [] 0)
 (.seq (.cond (.t 55)
  .skip
  (.exit 2))
 (.seq (.block 3 (.seq (.region [⟨true, ⟨(some 56), .iaddr none 1 (.t 52) (.t 54), [], none⟩⟩,
   ⟨true, ⟨(some 57), .load none (.t 56), [0], none⟩⟩,
   ⟨true, ⟨(some 8), .mov (.t 57), [1, 0, 1], none⟩⟩] [] 252201579132747776)
 (.region [⟨true, ⟨(some 58), .mov (.t 6), [], none⟩⟩,
   ⟨true, ⟨(some 59), .mov (.t 8), [], none⟩⟩,
   ⟨true, ⟨(some 60), .iaddr none 1 (.t 58) (.t 59), [0, 1, 0, 1], none⟩⟩,
   ⟨false, ⟨none, .store 1 (.t 60) (.c (.int .i64 (.ofNat 1))), [2, 0, 1], none⟩⟩] [] 2017612633061982464)))
 (.region [⟨true, ⟨(some 61), .bin .add (.t 54) (.c (.int .i64 (.ofNat 1))), [], none⟩⟩,
   ⟨false, ⟨(some 54), .mov (.t 61), [0], none⟩⟩] [] 2305843009213693952)))))))
 (.region [⟨true, ⟨(some 62), .faddr 3 (.t 4), [], none⟩⟩,
   ⟨true, ⟨(some 63), .load none (.t 62), [0], none⟩⟩,
   ⟨true, ⟨(some 64), .mov (.t 6), [], none⟩⟩,
   ⟨true, ⟨(some 65), .bslice false .dyn 1 1 [.nilsl] [(0, 1, (.t 64))], [2], none⟩⟩,
   ⟨true, ⟨(some 66), .append .dyn 1 24 (.t 63) (.t 65), [1, 3], none⟩⟩,
   ⟨true, ⟨(some 67), .faddr 3 (.t 4), [0, 1, 2, 3, 4], none⟩⟩,
   ⟨false, ⟨none, .store 1 (.t 67) (.t 66), [5, 4, 4, 0, 1, 2, 3, 4], none⟩⟩] [] 290567744358317031488))))))
 (.region [⟨true, ⟨(some 68), .bin .add (.t 23) (.c (.int .i64 (.ofNat 1))), [], none⟩⟩,
   ⟨false, ⟨(some 23), .mov (.t 68), [0], none⟩⟩] [] 295147905179352825856)))))))
 (.seq (.region [⟨true, ⟨(some 69), .load (some 4) (.t 4), [], none⟩⟩,
   ⟨false, ⟨none, .store 4 (.t 2) (.t 69), [0, 0], none⟩⟩,
   ⟨true, ⟨(some 3), .mov (.c (.int .i64 (.ofNat 0))), [1, 0, 1], none⟩⟩] [] 590295810358718234641)
 .ret)))))⟩
def f32 : FFn := ⟨26, [.tmp 4],
 (.seq (.region [⟨true, ⟨(some 4), .mov (.c (.bool false)), [], none⟩⟩] [] 16)
 (.seq (.seq (.region [⟨true, ⟨(some 6), .mov (.t 0), [], none⟩⟩,
   ⟨true, ⟨(some 7), .len 1 (.t 6), [0], none⟩⟩,
   ⟨true, ⟨(some 8), .mov (.t 1), [], none⟩⟩,
   ⟨true, ⟨(some 9), .len 1 (.t 8), [2], none⟩⟩,
   ⟨true, ⟨(some 10), .bin .neq (.t 7) (.t 9), [1, 3], none⟩⟩] [] 960)
 (.cond (.t 10)
  (.seq (.region [⟨true, ⟨(some 4), .mov (.c (.bool false)), [], none⟩⟩] [] 1027)
  .ret)
  .skip))
 (.seq (.seq (.region [⟨true, ⟨(some 5), .mov (.c (.int .i64 (.ofNat 0))), [], none⟩⟩] [] 1040)
 (.block 0 (.loop (.seq (.seq (.region [⟨true, ⟨(some 11), .mov (.t 5), [], none⟩⟩,
   ⟨true, ⟨(some 12), .mov (.t 0), [], none⟩⟩,
   ⟨true, ⟨(some 13), .len 1 (.t 12), [1], none⟩⟩,
   ⟨true, ⟨(some 14), .bin .lss (.t 11) (.t 13), [0, 2], none⟩⟩] [] 14336)
 (.cond (.t 14)
  .skip
  (.exit 0)))
 (.seq (.block 1 (.seq (.region [⟨true, ⟨(some 17), .mov (.t 0), [], none⟩⟩,
   ⟨true, ⟨(some 18), .mov (.t 5), [], none⟩⟩,
   ⟨true, ⟨(some 19), .iaddr none 1 (.t 17) (.t 18), [0, 1], none⟩⟩,
   ⟨true, ⟨(some 20), .load none (.t 19), [2], none⟩⟩,
   ⟨true, ⟨(some 21), .mov (.t 1), [], none⟩⟩,
   ⟨true, ⟨(some 22), .mov (.t 5), [], none⟩⟩,
   ⟨true, ⟨(some 23), .iaddr none 1 (.t 21) (.t 22), [4, 5], none⟩⟩,
   ⟨true, ⟨(some 24), .load none (.t 23), [6], none⟩⟩,
   ⟨true, ⟨(some 25), .bin .neq (.t 20) (.t 24), [3, 7], none⟩⟩] [] 33439744)
 (.cond (.t 25)
  (.seq (.region [⟨true, ⟨(some 4), .mov (.c (.bool false)), [], none⟩⟩] [] 33554467)
  .ret)
  .skip)))
 (.region [⟨true, ⟨(some 15), .mov (.t 5), [], none⟩⟩,
   ⟨true, ⟨(some 16), .bin .add (.t 15) (.c (.int .i64 (.ofNat 1))), [0], none⟩⟩,
   ⟨false, ⟨(some 5), .mov (.t 16), [1, 0, 1], none⟩⟩] [] 33652752))))))
 (.seq (.region [⟨true, ⟨(some 4), .mov (.c (.bool true)), [], none⟩⟩] [] 35)
 .ret))))⟩
def f34 : FFn := ⟨25, [.tmp 4],
 (.seq (.region [⟨true, ⟨(some 4), .mov (.c (.int .i64 (.ofNat 0))), [], none⟩⟩] [] 16)
 (.seq (.region [⟨true, ⟨(some 9), .mov (.t 0), [], none⟩⟩,
   ⟨true, ⟨(some 10), .call .heap (.f 88) [(.t 9)], [0], none⟩⟩,
   ⟨true, ⟨(some 8), .mov (.t 10), [1], none⟩⟩,
   ⟨true, ⟨(some 11), .extract 0 (.t 8), [2], none⟩⟩,
   ⟨true, ⟨(some 12), .extract 1 (.t 8), [2], none⟩⟩,
   ⟨true, ⟨(some 13), .extract 2 (.t 8), [2], none⟩⟩,
   ⟨true, ⟨(some 5), .mov (.t 11), [3, 1, 0, 1, 2, 3], none⟩⟩,
   ⟨true, ⟨(some 6), .mov (.t 12), [4, 6, 0, 1, 2, 3, 4, 6], none⟩⟩,
   ⟨true, ⟨(some 7), .mov (.t 13), [5, 7, 0, 1, 2, 3, 4, 5, 6, 7], none⟩⟩] [] 16129)
 (.seq (.seq (.region [⟨true, ⟨(some 14), .mov (.t 7), [], none⟩⟩,
   ⟨true, ⟨(some 15), .bin .neq (.t 14) (.c (.int .i64 (.ofNat 0))), [0], none⟩⟩] [] 16384)
 (.cond (.t 15)
  (.seq (.region [⟨true, ⟨(some 16), .mov (.t 7), [], none⟩⟩,
    ⟨true, ⟨(some 4), .mov (.t 16), [0, 0], none⟩⟩] [] 98530)
  .ret)
  .skip))
 (.seq (.seq (.region [⟨true, ⟨(some 17), .mov (.t 1), [], none⟩⟩,
   ⟨true, ⟨(some 18), .mov (.t 5), [], none⟩⟩,
   ⟨true, ⟨(some 19), .bin .lss (.t 17) (.t 18), [0, 1], none⟩⟩,
   ⟨true, ⟨(some 20), .mov (.t 19), [2], none⟩⟩,
   ⟨true, ⟨(some 21), .mov (.t 1), [3], (some (20, false))⟩⟩,
   ⟨true, ⟨(some 22), .mov (.t 6), [3], (some (20, false))⟩⟩,
   ⟨true, ⟨(some 23), .bin .gtr (.t 21) (.t 22), [4, 5, 3], (some (20, false))⟩⟩,
   ⟨true, ⟨(some 24), .pick (.t 20) (.c (.bool true)) (.t 23), [3, 6], none⟩⟩] [] 16679154)
 (.cond (.t 24)
  (.seq (.region [⟨true, ⟨(some 4), .mov (.c (.int .i64 (.ofNat 2))), [], none⟩⟩] [] 16777216)
  .ret)
  .skip))
 (.seq (.region [⟨false, ⟨(some 4), .mov (.c (.int .i64 (.ofNat 0))), [], none⟩⟩] [] 16777216)
 .ret)))))⟩
def f35 : FFn := ⟨22, [.cell 2 (some 5)],
 (.seq (.region [⟨true, ⟨(some 2), .alloc .dyn (.agg [.nilsl, .nilsl, .nilsl, .nilsl, .nilsl]), [], none⟩⟩] [] 0)
 (.seq (.region [⟨true, ⟨(some 5), .mov (.t 0), [], none⟩⟩,
   ⟨true, ⟨(some 6), .bslice false .dyn 1 2 [(.str []), (.str [])] [(0, 1, (.c (.str [115, 116, 97, 114, 116]))), (1, 1, (.c (.str [102, 105, 110, 105, 115, 104])))], [], none⟩⟩,
   ⟨true, ⟨(some 7), .call .heap (.f 89) [(.t 5), (.t 6)], [0, 1], none⟩⟩,
   ⟨true, ⟨(some 8), .build [.nilsl, .nilsl, .nilsl, .nilsl, .nilsl] [(0, 1, (.t 7))], [2], none⟩⟩,
   ⟨true, ⟨(some 3), .alloc .dyn (.agg [.nilsl, .nilsl, .nilsl, .nilsl, .nilsl]), [], none⟩⟩,
   ⟨false, ⟨none, .store 5 (.t 3) (.t 8), [4, 3, 2, 0, 1, 2, 3, 4], none⟩⟩] [] 480)
 (.seq (.seq (.region [⟨true, ⟨(some 9), .mov (.t 0), [], none⟩⟩,
   ⟨true, ⟨(some 10), .mov (.c (.int .i64 (.ofNat 0))), [], none⟩⟩] [] 1)
 (.block 0 (.loop (.seq (.region [⟨true, ⟨(some 11), .bin .lss (.t 10) (.t 9), [], none⟩⟩] [] 0)
 (.seq (.cond (.t 11)
  .skip
  (.exit 0))
 (.seq (.block 1 (.seq (.region [⟨true, ⟨(some 12), .mov (.t 10), [], none⟩⟩,
   ⟨true, ⟨(some 4), .mov (.t 12), [0, 0], none⟩⟩] [] 6144)
 (.region [⟨true, ⟨(some 13), .faddr 1 (.t 3), [], none⟩⟩,
   ⟨true, ⟨(some 14), .load none (.t 13), [0], none⟩⟩,
   ⟨true, ⟨(some 15), .mov (.t 4), [], none⟩⟩,
   ⟨true, ⟨(some 16), .call .pure (.f 90) [(.c (.str [109, 97, 99, 104, 105, 110, 101])), (.t 15)], [2], none⟩⟩,
   ⟨true, ⟨(some 17), .bslice false .dyn 5 1 [(.str []), .nilsl, (.int .i64 (.ofNat 0)), .nilsl, .nilsl] [(0, 5, (.t 16))], [3], none⟩⟩,
   ⟨true, ⟨(some 18), .append .dyn 5 96 (.t 14) (.t 17), [1, 4, 3], none⟩⟩,
   ⟨true, ⟨(some 19), .faddr 1 (.t 3), [0, 1, 2, 3, 4, 5], none⟩⟩,
   ⟨false, ⟨none, .store 1 (.t 19) (.t 18), [6, 5, 5, 0, 1, 2, 3, 4, 5], none⟩⟩] [] 1040400)))
 (.region [⟨true, ⟨(some 20), .bin .add (.t 10) (.c (.int .i64 (.ofNat 1))), [], none⟩⟩,
   ⟨false, ⟨(some 10), .mov (.t 20), [0], none⟩⟩] [] 1048576)))))))
 (.seq (.region [⟨true, ⟨(some 21), .load (some 5) (.t 3), [], none⟩⟩,
   ⟨false, ⟨none, .store 5 (.t 2) (.t 21), [0, 0], none⟩⟩] [] 2098696)
 .ret))))⟩
def f36 : FFn := ⟨63, [.cell 4 (some 5)],
 (.seq (.region [⟨true, ⟨(some 4), .alloc .dyn (.agg [(.str []), .nilsl, (.int .i64 (.ofNat 0)), .nilsl, .nilsl]), [], none⟩⟩] [] 0)
 (.seq (.region [⟨true, ⟨(some 7), .mov (.t 0), [], none⟩⟩,
   ⟨true, ⟨(some 8), .bin .mul (.c (.int .i64 (.ofNat 2))) (.t 7), [0], none⟩⟩,
   ⟨true, ⟨(some 9), .bin .add (.t 8) (.c (.int .i64 (.ofNat 1))), [1], none⟩⟩,
   ⟨true, ⟨(some 10), .mov (.t 0), [], none⟩⟩,
   ⟨true, ⟨(some 11), .bin .mul (.c (.int .i64 (.ofNat 2))) (.t 10), [3], none⟩⟩,
   ⟨true, ⟨(some 12), .bin .add (.t 11) (.c (.int .i64 (.ofNat 2))), [4], none⟩⟩,
   ⟨true, ⟨(some 13), .bslice false .dyn 1 2 [(.int .i64 (.ofNat 0)), (.int .i64 (.ofNat 0))] [(0, 1, (.t 9)), (1, 1, (.t 12))], [2, 5], none⟩⟩,
   ⟨true, ⟨(some 14), .mov (.t 1), [], none⟩⟩,
   ⟨true, ⟨(some 15), .bin .add (.t 14) (.c (.int .i64 (.ofNat 1))), [7], none⟩⟩,
   ⟨true, ⟨(some 16), .build [.nilsl, (.int .i64 (.ofNat 0)), .nilsl, .nilsl] [(0, 1, (.t 13)), (1, 1, (.t 15))], [6, 8], none⟩⟩,
   ⟨true, ⟨(some 5), .alloc .dyn (.agg [.nilsl, (.int .i64 (.ofNat 0)), .nilsl, .nilsl]), [], none⟩⟩,
   ⟨false, ⟨none, .store 4 (.t 5) (.t 16), [10, 9, 0, 1, 2, 3, 4, 5, 6, 7, 8, 9, 10], none⟩⟩] [] 130944)
 (.seq (.seq (.region [⟨true, ⟨(some 17), .faddr 1 (.t 5), [], none⟩⟩,
   ⟨true, ⟨(some 18), .load none (.t 17), [0], none⟩⟩,
   ⟨true, ⟨(some 19), .mov (.c (.int .i64 (.ofNat 0))), [], none⟩⟩] [] 131072)
 (.block 0 (.loop (.seq (.region [⟨true, ⟨(some 20), .bin .lss (.t 19) (.t 18), [], none⟩⟩] [] 0)
 (.seq (.cond (.t 20)
  .skip
  (.exit 0))
 (.seq (.block 1 (.seq (.region [⟨true, ⟨(some 21), .mov (.t 19), [], none⟩⟩,
   ⟨true, ⟨(some 6), .mov (.t 21), [0, 0], none⟩⟩] [] 3145728)
 (.seq (.region [⟨true, ⟨(some 22), .faddr 2 (.t 5), [], none⟩⟩,
   ⟨true, ⟨(some 23), .load none (.t 22), [0], none⟩⟩,
   ⟨true, ⟨(some 24), .mov (.t 6), [], none⟩⟩,
   ⟨true, ⟨(some 25), .bslice false .dyn 1 1 [(.int .i64 (.ofNat 0))] [(0, 1, (.t 24))], [2], none⟩⟩,
   ⟨true, ⟨(some 26), .append .dyn 1 8 (.t 23) (.t 25), [1, 3], none⟩⟩,
   ⟨true, ⟨(some 27), .faddr 2 (.t 5), [0, 1, 2, 3, 4], none⟩⟩,
   ⟨false, ⟨none, .store 1 (.t 27) (.t 26), [5, 4, 4, 0, 1, 2, 3, 4], none⟩⟩] [] 264241152)
 (.seq (.seq (.region [⟨true, ⟨(some 28), .mov (.t 6), [], none⟩⟩,
   ⟨true, ⟨(some 29), .mov (.t 1), [], none⟩⟩,
   ⟨true, ⟨(some 30), .bin .lss (.t 28) (.t 29), [0, 1], none⟩⟩] [] 805306368)
 (.cond (.t 30)
  (.region [⟨true, ⟨(some 31), .faddr 3 (.t 5), [], none⟩⟩,
    ⟨true, ⟨(some 32), .load none (.t 31), [0], none⟩⟩,
    ⟨true, ⟨(some 33), .mov (.t 6), [], none⟩⟩,
    ⟨true, ⟨(some 34), .mov (.t 0), [], none⟩⟩,
    ⟨true, ⟨(some 35), .bin .mul (.c (.int .i64 (.ofNat 2))) (.t 34), [3], none⟩⟩,
    ⟨true, ⟨(some 36), .bin .add (.t 35) (.c (.int .i64 (.ofNat 1))), [4], none⟩⟩,
    ⟨true, ⟨(some 37), .mov (.t 6), [], none⟩⟩,
    ⟨true, ⟨(some 38), .bin .add (.t 37) (.c (.int .i64 (.ofNat 1))), [6], none⟩⟩,
    ⟨true, ⟨(some 39), .build [(.int .i64 (.ofNat 0)), (.int .i64 (.ofNat 0)), (.int .i64 (.ofNat 0))] [(0, 1, (.t 33)), (1, 1, (.t 36)), (2, 1, (.t 38))], [2, 5, 7], none⟩⟩,
    ⟨true, ⟨(some 40), .bslice false .dyn 3 1 [(.int .i64 (.ofNat 0)), (.int .i64 (.ofNat 0)), (.int .i64 (.ofNat 0))] [(0, 3, (.t 39))], [8], none⟩⟩,
    ⟨true, ⟨(some 41), .append .dyn 3 24 (.t 32) (.t 40), [1, 9], none⟩⟩,
    ⟨true, ⟨(some 42), .faddr 3 (.t 5), [0, 1, 2, 3, 4, 5, 6, 7, 8, 9, 10], none⟩⟩,
    ⟨false, ⟨none, .store 1 (.t 42) (.t 41), [11, 10, 10, 0, 1, 2, 3, 4, 5, 6, 7, 8, 9, 10], none⟩⟩] [] 8795019280384)
  .skip))
 (.seq (.region [⟨true, ⟨(some 43), .mov (.t 6), [], none⟩⟩,
   ⟨true, ⟨(some 44), .bin .gtr (.t 43) (.c (.int .i64 (.ofNat 0))), [0], none⟩⟩] [] 8797166764032)
 (.cond (.t 44)
  (.region [⟨true, ⟨(some 45), .faddr 3 (.t 5), [], none⟩⟩,
    ⟨true, ⟨(some 46), .load none (.t 45), [0], none⟩⟩,
    ⟨true, ⟨(some 47), .mov (.t 6), [], none⟩⟩,
    ⟨true, ⟨(some 48), .mov (.t 0), [], none⟩⟩,
    ⟨true, ⟨(some 49), .bin .mul (.c (.int .i64 (.ofNat 2))) (.t 48), [3], none⟩⟩,
    ⟨true, ⟨(some 50), .bin .add (.t 49) (.c (.int .i64 (.ofNat 2))), [4], none⟩⟩,
    ⟨true, ⟨(some 51), .mov (.t 6), [], none⟩⟩,
    ⟨true, ⟨(some 52), .bin .sub (.t 51) (.c (.int .i64 (.ofNat 1))), [6], none⟩⟩,
    ⟨true, ⟨(some 53), .build [(.int .i64 (.ofNat 0)), (.int .i64 (.ofNat 0)), (.int .i64 (.ofNat 0))] [(0, 1, (.t 47)), (1, 1, (.t 50)), (2, 1, (.t 52))], [2, 5, 7], none⟩⟩,
    ⟨true, ⟨(some 54), .bslice false .dyn 3 1 [(.int .i64 (.ofNat 0)), (.int .i64 (.ofNat 0)), (.int .i64 (.ofNat 0))] [(0, 3, (.t 53))], [8], none⟩⟩,
    ⟨true, ⟨(some 55), .append .dyn 3 24 (.t 46) (.t 54), [1, 9], none⟩⟩,
    ⟨true, ⟨(some 56), .faddr 3 (.t 5), [0, 1, 2, 3, 4, 5, 6, 7, 8, 9, 10], none⟩⟩,
    ⟨false, ⟨none, .store 1 (.t 56) (.t 55), [11, 10, 10, 0, 1, 2, 3, 4, 5, 6, 7, 8, 9, 10], none⟩⟩] [] 144097595889811520)
  .skip))))))
 (.region [⟨true, ⟨(some 57), .bin .add (.t 19) (.c (.int .i64 (.ofNat 1))), [], none⟩⟩,
   ⟨false, ⟨(some 19), .mov (.t 57), [0], none⟩⟩] [] 144132780261900352)))))))
 (.seq (.region [⟨true, ⟨(some 58), .mov (.t 0), [], none⟩⟩,
   ⟨true, ⟨(some 59), .call .pure (.f 91) [(.t 58)], [0], none⟩⟩,
   ⟨true, ⟨(some 60), .bin .add (.c (.str [98, 117, 102, 102, 101, 114])) (.t 59), [1], none⟩⟩,
   ⟨true, ⟨(some 61), .load (some 4) (.t 5), [], none⟩⟩,
   ⟨true, ⟨(some 62), .build [(.str []), .nilsl, (.int .i64 (.ofNat 0)), .nilsl, .nilsl] [(0, 1, (.t 60)), (1, 4, (.t 61))], [2, 3], none⟩⟩,
   ⟨false, ⟨none, .store 5 (.t 4) (.t 62), [4, 1, 0, 1, 2, 3, 4], none⟩⟩] [] 8935141660703850531)
 .ret))))⟩
def f37 : FFn := ⟨130, [.cell 2 (some 5)],
 (.seq (.region [⟨true, ⟨(some 2), .alloc .dyn (.agg [.nilsl, .nilsl, .nilsl, .nilsl, .nilsl]), [], none⟩⟩] [] 0)
 (.seq (.region [⟨true, ⟨(some 14), .mov (.t 0), [], none⟩⟩,
   ⟨true, ⟨(some 15), .bslice false .dyn 1 3 [(.str []), (.str []), (.str [])] [(0, 1, (.c (.str [108, 101, 102, 116]))), (1, 1, (.c (.str [114, 105, 103, 104, 116]))), (2, 1, (.c (.str [112, 117, 116])))], [], none⟩⟩,
   ⟨true, ⟨(some 16), .call .heap (.f 89) [(.t 14), (.t 15)], [0, 1], none⟩⟩,
   ⟨true, ⟨(some 17), .build [.nilsl, .nilsl, .nilsl, .nilsl, .nilsl] [(0, 1, (.t 16))], [2], none⟩⟩,
   ⟨true, ⟨(some 3), .alloc .dyn (.agg [.nilsl, .nilsl, .nilsl, .nilsl, .nilsl]), [], none⟩⟩,
   ⟨false, ⟨none, .store 5 (.t 3) (.t 17), [4, 3, 2, 0, 1, 2, 3, 4], none⟩⟩] [] 245760)
 (.seq (.seq (.region [⟨true, ⟨(some 18), .mov (.t 0), [], none⟩⟩,
   ⟨true, ⟨(some 19), .mov (.c (.int .i64 (.ofNat 0))), [], none⟩⟩] [] 0)
 (.block 0 (.loop (.seq (.region [⟨true, ⟨(some 20), .bin .lss (.t 19) (.t 18), [], none⟩⟩] [] 0)
 (.seq (.cond (.t 20)
  .skip
  (.exit 0))
 (.seq (.block 1 (.seq (.region [⟨true, ⟨(some 21), .mov (.t 19), [], none⟩⟩,
   ⟨true, ⟨(some 4), .mov (.t 21), [0, 0], none⟩⟩] [] 3145728)
 (.seq (.region [⟨true, ⟨(some 22), .mov (.t 4), [], none⟩⟩,
   ⟨true, ⟨(some 23), .bin .mul (.c (.int .i64 (.ofNat 3))) (.t 22), [0], none⟩⟩,
   ⟨true, ⟨(some 24), .mov (.t 4), [], none⟩⟩,
   ⟨true, ⟨(some 25), .bin .mul (.c (.int .i64 (.ofNat 3))) (.t 24), [2], none⟩⟩,
   ⟨true, ⟨(some 26), .bin .add (.t 25) (.c (.int .i64 (.ofNat 1))), [3], none⟩⟩,
   ⟨true, ⟨(some 27), .mov (.t 4), [], none⟩⟩,
   ⟨true, ⟨(some 28), .bin .mul (.c (.int .i64 (.ofNat 3))) (.t 27), [5], none⟩⟩,
   ⟨true, ⟨(some 29), .bin .add (.t 28) (.c (.int .i64 (.ofNat 2))), [6], none⟩⟩,
   ⟨true, ⟨(some 30), .bslice false .dyn 1 3 [(.int .i64 (.ofNat 0)), (.int .i64 (.ofNat 0)), (.int .i64 (.ofNat 0))] [(0, 1, (.t 23)), (1, 1, (.t 26)), (2, 1, (.t 29))], [1, 4, 7], none⟩⟩,
   ⟨true, ⟨(some 31), .bslice false .dyn 1 1 [(.int .i64 (.ofNat 0))] [(0, 1, (.c (.int .i64 (.ofNat 0))))], [], none⟩⟩,
   ⟨true, ⟨(some 32), .build [.nilsl, (.int .i64 (.ofNat 0)), .nilsl, .nilsl] [(0, 1, (.t 30)), (1, 1, (.c (.int .i64 (.ofNat 3)))), (2, 1, (.t 31))], [8, 9], none⟩⟩,
   ⟨true, ⟨(some 5), .alloc .dyn (.agg [.nilsl, (.int .i64 (.ofNat 0)), .nilsl, .nilsl]), [], none⟩⟩,
   ⟨false, ⟨none, .store 4 (.t 5) (.t 32), [11, 10, 0, 1, 2, 3, 4, 5, 6, 7, 8, 9, 10, 11], none⟩⟩] [] 8585740288)
 (.seq (.seq (.region [⟨true, ⟨(some 33), .mov (.c (.int .i64 (.ofNat 0))), [], none⟩⟩] [] 0)
 (.block 2 (.loop (.seq (.region [⟨true, ⟨(some 34), .bin .lss (.t 33) (.c (.int .i64 (.ofNat 3))), [], none⟩⟩] [] 0)
 (.seq (.cond (.t 34)
  .skip
  (.exit 2))
 (.seq (.block 3 (.seq (.region [⟨true, ⟨(some 35), .mov (.t 33), [], none⟩⟩,
   ⟨true, ⟨(some 6), .mov (.t 35), [0, 0], none⟩⟩] [] 51539607552)
 (.region [⟨true, ⟨(some 36), .faddr 3 (.t 5), [], none⟩⟩,
   ⟨true, ⟨(some 37), .load none (.t 36), [0], none⟩⟩,
   ⟨true, ⟨(some 38), .mov (.t 6), [], none⟩⟩,
   ⟨true, ⟨(some 39), .mov (.t 4), [], none⟩⟩,
   ⟨true, ⟨(some 40), .bin .mul (.c (.int .i64 (.ofNat 3))) (.t 39), [3], none⟩⟩,
   ⟨true, ⟨(some 41), .mov (.t 6), [], none⟩⟩,
   ⟨true, ⟨(some 42), .bin .add (.t 40) (.t 41), [4, 5], none⟩⟩,
   ⟨true, ⟨(some 43), .mov (.t 6), [], none⟩⟩,
   ⟨true, ⟨(some 44), .bin .add (.t 43) (.c (.int .i64 (.ofNat 1))), [7], none⟩⟩,
   ⟨true, ⟨(some 45), .bin .rem (.t 44) (.c (.int .i64 (.ofNat 3))), [8], none⟩⟩,
   ⟨true, ⟨(some 46), .build [(.int .i64 (.ofNat 0)), (.int .i64 (.ofNat 0)), (.int .i64 (.ofNat 0))] [(0, 1, (.t 38)), (1, 1, (.t 42)), (2, 1, (.t 45))], [2, 6, 9], none⟩⟩,
   ⟨true, ⟨(some 47), .bslice false .dyn 3 1 [(.int .i64 (.ofNat 0)), (.int .i64 (.ofNat 0)), (.int .i64 (.ofNat 0))] [(0, 3, (.t 46))], [10], none⟩⟩,
   ⟨true, ⟨(some 48), .append .dyn 3 24 (.t 37) (.t 47), [1, 11], none⟩⟩,
   ⟨true, ⟨(some 49), .faddr 3 (.t 5), [0, 1, 2, 3, 4, 5, 6, 7, 8, 9, 10, 11, 12], none⟩⟩,
   ⟨false, ⟨none, .store 1 (.t 49) (.t 48), [13, 12, 12, 0, 1, 2, 3, 4, 5, 6, 7, 8, 9, 10, 11, 12], none⟩⟩] [] 1125831187365952)))
 (.region [⟨true, ⟨(some 50), .bin .add (.t 33) (.c (.int .i64 (.ofNat 1))), [], none⟩⟩,
   ⟨false, ⟨(some 33), .mov (.t 50), [0], none⟩⟩] [] 1125899906842624)))))))
 (.region [⟨true, ⟨(some 51), .faddr 1 (.t 3), [], none⟩⟩,
   ⟨true, ⟨(some 52), .load none (.t 51), [0], none⟩⟩,
   ⟨true, ⟨(some 53), .mov (.t 4), [], none⟩⟩,
   ⟨true, ⟨(some 54), .call .pure (.f 91) [(.t 53)], [2], none⟩⟩,
   ⟨true, ⟨(some 55), .bin .add (.c (.str [112, 104, 105, 108, 111, 115, 111, 112, 104, 101, 114])) (.t 54), [3], none⟩⟩,
   ⟨true, ⟨(some 56), .load (some 4) (.t 5), [], none⟩⟩,
   ⟨true, ⟨(some 57), .build [(.str []), .nilsl, (.int .i64 (.ofNat 0)), .nilsl, .nilsl] [(0, 1, (.t 55)), (1, 4, (.t 56))], [4, 5], none⟩⟩,
   ⟨true, ⟨(some 58), .bslice false .dyn 5 1 [(.str []), .nilsl, (.int .i64 (.ofNat 0)), .nilsl, .nilsl] [(0, 5, (.t 57))], [6], none⟩⟩,
   ⟨true, ⟨(some 59), .append .dyn 5 96 (.t 52) (.t 58), [1, 7, 3], none⟩⟩,
   ⟨true, ⟨(some 60), .faddr 1 (.t 3), [0, 1, 2, 3, 4, 5, 6, 7, 8], none⟩⟩,
   ⟨false, ⟨none, .store 1 (.t 60) (.t 59), [9, 8, 8, 0, 1, 2, 3, 4, 5, 6, 7, 8], none⟩⟩] [] 2303591217989943344)))))
 (.region [⟨true, ⟨(some 61), .bin .add (.t 19) (.c (.int .i64 (.ofNat 1))), [], none⟩⟩,
   ⟨false, ⟨(some 19), .mov (.t 61), [0], none⟩⟩] [] 2305843009213693952)))))))
 (.seq (.seq (.region [⟨true, ⟨(some 62), .mov (.t 0), [], none⟩⟩,
   ⟨true, ⟨(some 63), .mov (.c (.int .i64 (.ofNat 0))), [], none⟩⟩] [] 786432)
 (.block 4 (.loop (.seq (.region [⟨true, ⟨(some 64), .bin .lss (.t 63) (.t 62), [], none⟩⟩] [] 0)
 (.seq (.cond (.t 64)
  .skip
  (.exit 4))
 (.seq (.block 5 (.seq (.region [⟨true, ⟨(some 65), .mov (.t 63), [], none⟩⟩,
   ⟨true, ⟨(some 7), .mov (.t 65), [0, 0], none⟩⟩] [] 55340232221128654848)
 (.seq (.region [⟨true, ⟨(some 66), .mov (.t 7), [], none⟩⟩,
   ⟨true, ⟨(some 67), .mov (.t 0), [], none⟩⟩,
   ⟨true, ⟨(some 68), .bin .add (.t 66) (.t 67), [0, 1], none⟩⟩,
   ⟨true, ⟨(some 69), .bin .sub (.t 68) (.c (.int .i64 (.ofNat 1))), [2], none⟩⟩,
   ⟨true, ⟨(some 70), .mov (.t 0), [], none⟩⟩,
   ⟨true, ⟨(some 71), .bin .rem (.t 69) (.t 70), [3, 4], none⟩⟩,
   ⟨true, ⟨(some 8), .mov (.t 71), [5, 0, 1, 2, 3, 4, 5], none⟩⟩] [] 4648579506574807007232)
 (.seq (.region [⟨true, ⟨(some 72), .mov (.t 7), [], none⟩⟩,
   ⟨true, ⟨(some 73), .bin .mul (.c (.int .i64 (.ofNat 3))) (.t 72), [0], none⟩⟩,
   ⟨true, ⟨(some 74), .mov (.t 7), [], none⟩⟩,
   ⟨true, ⟨(some 75), .bin .mul (.c (.int .i64 (.ofNat 3))) (.t 74), [2], none⟩⟩,
   ⟨true, ⟨(some 76), .bin .add (.t 75) (.c (.int .i64 (.ofNat 2))), [3], none⟩⟩,
   ⟨true, ⟨(some 77), .mov (.t 8), [], none⟩⟩,
   ⟨true, ⟨(some 78), .bin .mul (.c (.int .i64 (.ofNat 3))) (.t 77), [5], none⟩⟩,
   ⟨true, ⟨(some 79), .bin .add (.t 78) (.c (.int .i64 (.ofNat 1))), [6], none⟩⟩,
   ⟨true, ⟨(some 80), .mov (.t 8), [], none⟩⟩,
   ⟨true, ⟨(some 81), .bin .mul (.c (.int .i64 (.ofNat 3))) (.t 80), [8], none⟩⟩,
   ⟨true, ⟨(some 82), .bin .add (.t 81) (.c (.int .i64 (.ofNat 2))), [9], none⟩⟩,
   ⟨true, ⟨(some 83), .bslice false .dyn 1 4 [(.int .i64 (.ofNat 0)), (.int .i64 (.ofNat 0)), (.int .i64 (.ofNat 0)), (.int .i64 (.ofNat 0))] [(0, 1, (.t 73)), (1, 1, (.t 76)), (2, 1, (.t 79)), (3, 1, (.t 82))], [1, 4, 7, 10], none⟩⟩,
   ⟨true, ⟨(some 84), .bslice false .dyn 1 1 [(.int .i64 (.ofNat 0))] [(0, 1, (.c (.int .i64 (.ofNat 0))))], [], none⟩⟩,
   ⟨true, ⟨(some 85), .build [.nilsl, (.int .i64 (.ofNat 0)), .nilsl, .nilsl] [(0, 1, (.t 83)), (1, 1, (.c (.int .i64 (.ofNat 2)))), (2, 1, (.t 84))], [11, 12], none⟩⟩,
   ⟨true, ⟨(some 9), .alloc .dyn (.agg [.nilsl, (.int .i64 (.ofNat 0)), .nilsl, .nilsl]), [], none⟩⟩,
   ⟨false, ⟨none, .store 4 (.t 9) (.t 85), [14, 13, 0, 1, 2, 3, 4, 5, 6, 7, 8, 9, 10, 11, 12, 13, 14], none⟩⟩] [] 77366530088853397535981824)
 (.seq (.region [⟨true, ⟨(some 86), .faddr 0 (.t 9), [], none⟩⟩,
   ⟨true, ⟨(some 87), .load none (.t 86), [0], none⟩⟩,
   ⟨true, ⟨(some 88), .call .heap (.f 92) [(.t 87)], [1], none⟩⟩] [] 541598767187353870268366848)
 (.seq (.seq (.region [⟨true, ⟨(some 89), .mov (.c (.int .i64 (.ofNat 0))), [], none⟩⟩] [] 0)
 (.block 6 (.loop (.seq (.region [⟨true, ⟨(some 90), .bin .lss (.t 89) (.c (.int .i64 (.ofNat 2))), [], none⟩⟩] [] 0)
 (.seq (.cond (.t 90)
  .skip
  (.exit 6))
 (.seq (.block 7 (.seq (.region [⟨true, ⟨(some 91), .mov (.t 89), [], none⟩⟩,
   ⟨true, ⟨(some 10), .mov (.t 91), [0, 0], none⟩⟩] [] 3713820117856140824697372672)
 (.seq (.region [⟨true, ⟨(some 92), .faddr 0 (.t 9), [], none⟩⟩,
   ⟨true, ⟨(some 93), .load none (.t 92), [0], none⟩⟩,
   ⟨true, ⟨(some 94), .len 1 (.t 93), [1], none⟩⟩,
   ⟨true, ⟨(some 95), .mov (.c (.int .i64 (.ofNat 0))), [], none⟩⟩] [] 4951760157141521099596496896)
 (.block 8 (.loop (.seq (.region [⟨true, ⟨(some 96), .bin .lss (.t 95) (.t 94), [], none⟩⟩] [] 0)
 (.seq (.cond (.t 96)
  .skip
  (.exit 8))
 (.seq (.block 9 (.seq (.region [⟨true, ⟨(some 97), .iaddr none 1 (.t 93) (.t 95), [], none⟩⟩,
   ⟨true, ⟨(some 98), .load none (.t 97), [0], none⟩⟩,
   ⟨true, ⟨(some 12), .mov (.t 98), [1, 0, 1], none⟩⟩] [] 554597137599850363154807652352)
 (.seq (.region [⟨true, ⟨(some 99), .mov (.t 12), [], none⟩⟩,
   ⟨true, ⟨(some 100), .bin .rem (.t 99) (.c (.int .i64 (.ofNat 3))), [0], none⟩⟩,
   ⟨true, ⟨(some 101), .bin .eql (.t 100) (.c (.int .i64 (.ofNat 2))), [1], none⟩⟩,
   ⟨true, ⟨(some 13), .mov (.t 101), [2, 0, 1, 2], none⟩⟩] [] 4436777100798802905238461218816)
 (.seq (.region [⟨true, ⟨(some 102), .mov (.t 13), [], none⟩⟩,
   ⟨true, ⟨(some 103), .mov (.t 10), [], none⟩⟩,
   ⟨true, ⟨(some 104), .bin .eql (.t 103) (.c (.int .i64 (.ofNat 1))), [1], none⟩⟩,
   ⟨true, ⟨(some 105), .eq (.flat false [.b]) false (.t 102) (.t 104), [0, 2], none⟩⟩] [] 35494216806390423241907689758720)
 (.cond (.t 105)
  (.region [⟨true, ⟨(some 106), .faddr 3 (.t 9), [], none⟩⟩,
    ⟨true, ⟨(some 107), .load none (.t 106), [0], none⟩⟩,
    ⟨true, ⟨(some 108), .mov (.t 10), [], none⟩⟩,
    ⟨true, ⟨(some 109), .mov (.t 12), [], none⟩⟩,
    ⟨true, ⟨(some 110), .mov (.t 10), [], none⟩⟩,
    ⟨true, ⟨(some 111), .bin .sub (.c (.int .i64 (.ofNat 1))) (.t 110), [4], none⟩⟩,
    ⟨true, ⟨(some 112), .build [(.int .i64 (.ofNat 0)), (.int .i64 (.ofNat 0)), (.int .i64 (.ofNat 0))] [(0, 1, (.t 108)), (1, 1, (.t 109)), (2, 1, (.t 111))], [2, 3, 5], none⟩⟩,
    ⟨true, ⟨(some 113), .bslice false .dyn 3 1 [(.int .i64 (.ofNat 0)), (.int .i64 (.ofNat 0)), (.int .i64 (.ofNat 0))] [(0, 3, (.t 112))], [6], none⟩⟩,
    ⟨true, ⟨(some 114), .append .dyn 3 24 (.t 107) (.t 113), [1, 7], none⟩⟩,
    ⟨true, ⟨(some 115), .faddr 3 (.t 9), [0, 1, 2, 3, 4, 5, 6, 7, 8], none⟩⟩,
    ⟨false, ⟨none, .store 1 (.t 115) (.t 114), [9, 8, 8, 0, 1, 2, 3, 4, 5, 6, 7, 8], none⟩⟩] [] 83036184917349938715640046764953600)
  .skip)))))
 (.region [⟨true, ⟨(some 116), .bin .add (.t 95) (.c (.int .i64 (.ofNat 1))), [], none⟩⟩,
   ⟨false, ⟨(some 95), .mov (.t 116), [0], none⟩⟩] [] 83117314555764545397335835770097664)))))))))
 (.region [⟨true, ⟨(some 117), .bin .add (.t 89) (.c (.int .i64 (.ofNat 1))), [], none⟩⟩,
   ⟨false, ⟨(some 89), .mov (.t 117), [0], none⟩⟩] [] 166153568797756684094271276886000640)))))))
 (.region [⟨true, ⟨(some 118), .faddr 1 (.t 3), [], none⟩⟩,
   ⟨true, ⟨(some 119), .load none (.t 118), [0], none⟩⟩,
   ⟨true, ⟨(some 120), .mov (.t 7), [], none⟩⟩,
   ⟨true, ⟨(some 121), .call .pure (.f 91) [(.t 120)], [2], none⟩⟩,
   ⟨true, ⟨(some 122), .bin .add (.c (.str [102, 111, 114, 107])) (.t 121), [3], none⟩⟩,
   ⟨true, ⟨(some 123), .load (some 4) (.t 9), [], none⟩⟩,
   ⟨true, ⟨(some 124), .build [(.str []), .nilsl, (.int .i64 (.ofNat 0)), .nilsl, .nilsl] [(0, 1, (.t 122)), (1, 4, (.t 123))], [4, 5], none⟩⟩,
   ⟨true, ⟨(some 125), .bslice false .dyn 5 1 [(.str []), .nilsl, (.int .i64 (.ofNat 0)), .nilsl, .nilsl] [(0, 5, (.t 124))], [6], none⟩⟩,
   ⟨true, ⟨(some 126), .append .dyn 5 96 (.t 119) (.t 125), [1, 7, 3], none⟩⟩,
   ⟨true, ⟨(some 127), .faddr 1 (.t 3), [0, 1, 2, 3, 4, 5, 6, 7, 8], none⟩⟩,
   ⟨false, ⟨none, .store 1 (.t 127) (.t 126), [9, 8, 8, 0, 1, 2, 3, 4, 5, 6, 7, 8], none⟩⟩] [] 339950059922611204514791345804147688064)))))))
 (.region [⟨true, ⟨(some 128), .bin .add (.t 63) (.c (.int .i64 (.ofNat 1))), [], none⟩⟩,
   ⟨false, ⟨(some 63), .mov (.t 128), [0], none⟩⟩] [] 340282366920938463463374607431768211456)))))))
 (.seq (.region [⟨true, ⟨(some 129), .load (some 5) (.t 3), [], none⟩⟩,
   ⟨false, ⟨none, .store 5 (.t 2) (.t 129), [0, 0], none⟩⟩] [] 680564733841876926940584272918818586633)
 .ret)))))⟩
def f38 : FFn := ⟨34, [.cell 2 (some 5)],
 (.seq (.region [⟨true, ⟨(some 2), .alloc .dyn (.agg [.nilsl, .nilsl, .nilsl, .nilsl, .nilsl]), [], none⟩⟩] [] 0)
 (.seq (.region [⟨true, ⟨(some 6), .mov (.t 0), [], none⟩⟩,
   ⟨true, ⟨(some 7), .bslice false .dyn 1 2 [(.str []), (.str [])] [(0, 1, (.c (.str [101, 110, 116, 101, 114]))), (1, 1, (.c (.str [108, 101, 97, 118, 101])))], [], none⟩⟩,
   ⟨true, ⟨(some 8), .call .heap (.f 89) [(.t 6), (.t 7)], [0, 1], none⟩⟩,
   ⟨true, ⟨(some 9), .build [.nilsl, .nilsl, .nilsl, .nilsl, .nilsl] [(0, 1, (.t 8))], [2], none⟩⟩,
   ⟨true, ⟨(some 3), .alloc .dyn (.agg [.nilsl, .nilsl, .nilsl, .nilsl, .nilsl]), [], none⟩⟩,
   ⟨false, ⟨none, .store 5 (.t 3) (.t 9), [4, 3, 2, 0, 1, 2, 3, 4], none⟩⟩] [] 960)
 (.seq (.region [⟨true, ⟨(some 10), .build [(.str []), .nilsl, (.int .i64 (.ofNat 0))] [(0, 1, (.c (.str [122, 111, 110, 101]))), (2, 1, (.c (.int .i64 (.ofNat 1))))], [], none⟩⟩,
   ⟨true, ⟨(some 4), .alloc .dyn (.agg [(.str []), .nilsl, (.int .i64 (.ofNat 0))]), [], none⟩⟩,
   ⟨false, ⟨none, .store 3 (.t 4) (.t 10), [1, 0, 0, 1], none⟩⟩] [] 1024)
 (.seq (.seq (.region [⟨true, ⟨(some 11), .mov (.t 0), [], none⟩⟩,
   ⟨true, ⟨(some 12), .mov (.c (.int .i64 (.ofNat 0))), [], none⟩⟩] [] 1)
 (.block 0 (.loop (.seq (.region [⟨true, ⟨(some 13), .bin .lss (.t 12) (.t 11), [], none⟩⟩] [] 0)
 (.seq (.cond (.t 13)
  .skip
  (.exit 0))
 (.seq (.block 1 (.seq (.region [⟨true, ⟨(some 14), .mov (.t 12), [], none⟩⟩,
   ⟨true, ⟨(some 5), .mov (.t 14), [0, 0], none⟩⟩] [] 24576)
 (.seq (.region [⟨true, ⟨(some 15), .faddr 1 (.t 3), [], none⟩⟩,
   ⟨true, ⟨(some 16), .load none (.t 15), [0], none⟩⟩,
   ⟨true, ⟨(some 17), .mov (.t 5), [], none⟩⟩,
   ⟨true, ⟨(some 18), .call .pure (.f 90) [(.c (.str [118, 101, 104, 105, 99, 108, 101])), (.t 17)], [2], none⟩⟩,
   ⟨true, ⟨(some 19), .bslice false .dyn 5 1 [(.str []), .nilsl, (.int .i64 (.ofNat 0)), .nilsl, .nilsl] [(0, 5, (.t 18))], [3], none⟩⟩,
   ⟨true, ⟨(some 20), .append .dyn 5 96 (.t 16) (.t 19), [1, 4, 3], none⟩⟩,
   ⟨true, ⟨(some 21), .faddr 1 (.t 3), [0, 1, 2, 3, 4, 5], none⟩⟩,
   ⟨false, ⟨none, .store 1 (.t 21) (.t 20), [6, 5, 5, 0, 1, 2, 3, 4, 5], none⟩⟩] [] 4161536)
 (.region [⟨true, ⟨(some 22), .faddr 1 (.t 4), [], none⟩⟩,
   ⟨true, ⟨(some 23), .load none (.t 22), [0], none⟩⟩,
   ⟨true, ⟨(some 24), .mov (.t 5), [], none⟩⟩,
   ⟨true, ⟨(some 25), .build [(.int .i64 (.ofNat 0)), (.int .i64 (.ofNat 0))] [(0, 1, (.t 24)), (1, 1, (.c (.int .i64 (.ofNat 1))))], [2], none⟩⟩,
   ⟨true, ⟨(some 26), .bslice false .dyn 2 1 [(.int .i64 (.ofNat 0)), (.int .i64 (.ofNat 0))] [(0, 2, (.t 25))], [3], none⟩⟩,
   ⟨true, ⟨(some 27), .append .dyn 2 16 (.t 23) (.t 26), [1, 4], none⟩⟩,
   ⟨true, ⟨(some 28), .faddr 1 (.t 4), [0, 1, 2, 3, 4, 5], none⟩⟩,
   ⟨false, ⟨none, .store 1 (.t 28) (.t 27), [6, 5, 5, 0, 1, 2, 3, 4, 5], none⟩⟩] [] 532676640))))
 (.region [⟨true, ⟨(some 29), .bin .add (.t 12) (.c (.int .i64 (.ofNat 1))), [], none⟩⟩,
   ⟨false, ⟨(some 12), .mov (.t 29), [0], none⟩⟩] [] 536870912)))))))
 (.seq (.region [⟨true, ⟨(some 30), .load (some 3) (.t 4), [], none⟩⟩,
   ⟨true, ⟨(some 31), .bslice false .dyn 3 1 [(.str []), .nilsl, (.int .i64 (.ofNat 0))] [(0, 3, (.t 30))], [0], none⟩⟩,
   ⟨true, ⟨(some 32), .faddr 4 (.t 3), [0, 1], none⟩⟩,
   ⟨false, ⟨none, .store 1 (.t 32) (.t 31), [2, 1, 0, 1], none⟩⟩] [] 7516198928)
 (.seq (.region [⟨true, ⟨(some 33), .load (some 5) (.t 3), [], none⟩⟩,
   ⟨false, ⟨none, .store 5 (.t 2) (.t 33), [0, 0], none⟩⟩] [] 8589934600)
 .ret))))))⟩
def f39 : FFn := ⟨41, [.cell 2 (some 5)],
 (.seq (.region [⟨true, ⟨(some 2), .alloc .dyn (.agg [.nilsl, .nilsl, .nilsl, .nilsl, .nilsl]), [], none⟩⟩] [] 0)
 (.seq (.region [⟨true, ⟨(some 6), .mov (.t 0), [], none⟩⟩,
   ⟨true, ⟨(some 7), .call .heap (.f 35) [(.t 6)], [0], none⟩⟩,
   ⟨true, ⟨(some 3), .alloc .dyn (.agg [.nilsl, .nilsl, .nilsl, .nilsl, .nilsl]), [], none⟩⟩,
   ⟨false, ⟨none, .store 5 (.t 3) (.t 7), [2, 1, 1, 0, 1, 2], none⟩⟩] [] 192)
 (.seq (.region [⟨true, ⟨(some 8), .mov (.t 0), [], none⟩⟩,
   ⟨true, ⟨(some 9), .bslice false .dyn 1 1 [(.int .i64 (.ofNat 0))] [(0, 1, (.c (.int .i64 (.ofNat 0))))], [], none⟩⟩,
   ⟨true, ⟨(some 10), .build [.nilsl, (.int .i64 (.ofNat 0)), .nilsl, .nilsl] [(1, 1, (.t 8)), (2, 1, (.t 9))], [0, 1], none⟩⟩,
   ⟨true, ⟨(some 4), .alloc .dyn (.agg [.nilsl, (.int .i64 (.ofNat 0)), .nilsl, .nilsl]), [], none⟩⟩,
   ⟨false, ⟨none, .store 4 (.t 4) (.t 10), [3, 2, 0, 1, 2, 3], none⟩⟩] [] 1792)
 (.seq (.seq (.region [⟨true, ⟨(some 11), .mov (.t 0), [], none⟩⟩,
   ⟨true, ⟨(some 12), .mov (.c (.int .i64 (.ofNat 0))), [], none⟩⟩] [] 0)
 (.block 0 (.loop (.seq (.region [⟨true, ⟨(some 13), .bin .lss (.t 12) (.t 11), [], none⟩⟩] [] 0)
 (.seq (.cond (.t 13)
  .skip
  (.exit 0))
 (.seq (.block 1 (.seq (.region [⟨true, ⟨(some 14), .mov (.t 12), [], none⟩⟩,
   ⟨true, ⟨(some 5), .mov (.t 14), [0, 0], none⟩⟩] [] 24576)
 (.seq (.region [⟨true, ⟨(some 15), .faddr 0 (.t 4), [], none⟩⟩,
   ⟨true, ⟨(some 16), .load none (.t 15), [0], none⟩⟩,
   ⟨true, ⟨(some 17), .mov (.t 5), [], none⟩⟩,
   ⟨true, ⟨(some 18), .bin .mul (.c (.int .i64 (.ofNat 2))) (.t 17), [2], none⟩⟩,
   ⟨true, ⟨(some 19), .bslice false .dyn 1 1 [(.int .i64 (.ofNat 0))] [(0, 1, (.t 18))], [3], none⟩⟩,
   ⟨true, ⟨(some 20), .append .dyn 1 8 (.t 16) (.t 19), [1, 4], none⟩⟩,
   ⟨true, ⟨(some 21), .faddr 0 (.t 4), [0, 1, 2, 3, 4, 5], none⟩⟩,
   ⟨false, ⟨none, .store 1 (.t 21) (.t 20), [6, 5, 5, 0, 1, 2, 3, 4, 5], none⟩⟩] [] 4161536)
 (.region [⟨true, ⟨(some 22), .faddr 3 (.t 4), [], none⟩⟩,
   ⟨true, ⟨(some 23), .load none (.t 22), [0], none⟩⟩,
   ⟨true, ⟨(some 24), .mov (.t 5), [], none⟩⟩,
   ⟨true, ⟨(some 25), .mov (.t 5), [], none⟩⟩,
   ⟨true, ⟨(some 26), .bin .mul (.c (.int .i64 (.ofNat 2))) (.t 25), [3], none⟩⟩,
   ⟨true, ⟨(some 27), .mov (.t 5), [], none⟩⟩,
   ⟨true, ⟨(some 28), .bin .add (.t 27) (.c (.int .i64 (.ofNat 1))), [5], none⟩⟩,
   ⟨true, ⟨(some 29), .mov (.t 0), [], none⟩⟩,
   ⟨true, ⟨(some 30), .bin .rem (.t 28) (.t 29), [6, 7], none⟩⟩,
   ⟨true, ⟨(some 31), .build [(.int .i64 (.ofNat 0)), (.int .i64 (.ofNat 0)), (.int .i64 (.ofNat 0))] [(0, 1, (.t 24)), (1, 1, (.t 26)), (2, 1, (.t 30))], [2, 4, 8], none⟩⟩,
   ⟨true, ⟨(some 32), .bslice false .dyn 3 1 [(.int .i64 (.ofNat 0)), (.int .i64 (.ofNat 0)), (.int .i64 (.ofNat 0))] [(0, 3, (.t 31))], [9], none⟩⟩,
   ⟨true, ⟨(some 33), .append .dyn 3 24 (.t 23) (.t 32), [1, 10], none⟩⟩,
   ⟨true, ⟨(some 34), .faddr 3 (.t 4), [0, 1, 2, 3, 4, 5, 6, 7, 8, 9, 10, 11], none⟩⟩,
   ⟨false, ⟨none, .store 1 (.t 34) (.t 33), [12, 11, 11, 0, 1, 2, 3, 4, 5, 6, 7, 8, 9, 10, 11], none⟩⟩] [] 34355544096))))
 (.region [⟨true, ⟨(some 35), .bin .add (.t 12) (.c (.int .i64 (.ofNat 1))), [], none⟩⟩,
   ⟨false, ⟨(some 12), .mov (.t 35), [0], none⟩⟩] [] 34359738368)))))))
 (.seq (.region [⟨true, ⟨(some 36), .load (some 4) (.t 4), [], none⟩⟩,
   ⟨true, ⟨(some 37), .build [(.str []), .nilsl, (.int .i64 (.ofNat 0)), .nilsl, .nilsl] [(0, 1, (.c (.str [116, 117, 114, 110, 115]))), (1, 4, (.t 36))], [0], none⟩⟩,
   ⟨true, ⟨(some 38), .bslice false .dyn 5 1 [(.str []), .nilsl, (.int .i64 (.ofNat 0)), .nilsl, .nilsl] [(0, 5, (.t 37))], [1], none⟩⟩,
   ⟨true, ⟨(some 39), .faddr 2 (.t 3), [0, 1, 2], none⟩⟩,
   ⟨false, ⟨none, .store 1 (.t 39) (.t 38), [3, 2, 0, 1, 2], none⟩⟩] [] 1030792157201)
 (.seq (.region [⟨true, ⟨(some 40), .load (some 5) (.t 3), [], none⟩⟩,
   ⟨false, ⟨none, .store 5 (.t 2) (.t 40), [0, 0], none⟩⟩] [] 1099511627784)
 .ret))))))⟩
def f54 : FFn := ⟨51, [.tmp 2],
 (.seq (.region [⟨true, ⟨(some 2), .mov (.c (.int .i64 (.ofNat 0))), [], none⟩⟩] [] 4)
 (.seq (.seq (.region [⟨true, ⟨(some 6), .mov (.t 0), [], none⟩⟩,
   ⟨true, ⟨(some 7), .len 1 (.t 6), [0], none⟩⟩,
   ⟨true, ⟨(some 8), .bin .gtr (.t 7) (.c (.int .i64 (.ofNat 32))), [1], none⟩⟩] [] 192)
 (.cond (.t 8)
  (.seq (.region [⟨true, ⟨(some 2), .mov (.c (.int .i64 (.ofNat 3))), [], none⟩⟩] [] 257)
  .ret)
  .skip))
 (.seq (.region [⟨true, ⟨(some 9), .mkmap .dyn, [], none⟩⟩,
   ⟨true, ⟨(some 3), .mov (.t 9), [0, 0], none⟩⟩] [] 772)
 (.seq (.seq (.region [⟨true, ⟨(some 10), .mov (.t 0), [], none⟩⟩,
   ⟨true, ⟨(some 11), .len 1 (.t 10), [0], none⟩⟩,
   ⟨true, ⟨(some 12), .mov (.c (.int .i64 (.ofNat 0))), [], none⟩⟩] [] 1)
 (.block 0 (.loop (.seq (.region [⟨true, ⟨(some 13), .bin .lss (.t 12) (.t 11), [], none⟩⟩] [] 0)
 (.seq (.cond (.t 13)
  .skip
  (.exit 0))
 (.seq (.block 1 (.seq (.region [⟨true, ⟨(some 14), .iaddr none 5 (.t 10) (.t 12), [], none⟩⟩,
   ⟨true, ⟨(some 15), .load (some 5) (.t 14), [0], none⟩⟩,
   ⟨true, ⟨(some 5), .alloc .dyn (.agg [(.str []), (.bool false), (.bool false), (.bool false), (.int .i64 (.ofNat 0))]), [], none⟩⟩,
   ⟨false, ⟨none, .store 5 (.t 5) (.t 15), [2, 1, 0, 1, 2], none⟩⟩] [] 57344)
 (.seq (.block 2 (.seq (.region [⟨true, ⟨(some 17), .faddr 0 (.t 5), [], none⟩⟩,
   ⟨true, ⟨(some 18), .load none (.t 17), [0], none⟩⟩,
   ⟨true, ⟨(some 19), .call .heap (.f 96) [(.t 18)], [1], none⟩⟩,
   ⟨true, ⟨(some 20), .un .not (.t 19), [2], none⟩⟩,
   ⟨true, ⟨(some 16), .mov (.t 20), [3, 2], none⟩⟩] [] 1966080)
 (.cond (.t 16)
  (.seq (.region [⟨true, ⟨(some 2), .mov (.c (.int .i64 (.ofNat 7))), [], none⟩⟩] [] 69284265008168)
  .ret)
  (.seq (.region [⟨true, ⟨(some 22), .mov (.t 3), [], none⟩⟩,
    ⟨true, ⟨(some 23), .faddr 0 (.t 5), [], none⟩⟩,
    ⟨true, ⟨(some 24), .load none (.t 23), [1], none⟩⟩,
    ⟨true, ⟨(some 25), .lookup false [.s] (.bool false) false (.t 22) (.t 24), [0, 2], none⟩⟩,
    ⟨true, ⟨(some 21), .mov (.t 25), [3], none⟩⟩] [] 62980096)
  (.cond (.t 21)
   (.seq (.region [⟨true, ⟨(some 2), .mov (.c (.int .i64 (.ofNat 8))), [], none⟩⟩] [] 69284267039784)
   .ret)
   (.seq (.region [⟨true, ⟨(some 27), .faddr 4 (.t 5), [], none⟩⟩,
     ⟨true, ⟨(some 28), .load none (.t 27), [0], none⟩⟩,
     ⟨true, ⟨(some 29), .bin .lss (.t 28) (.c (.int .i64 (.ofNat 0))), [1], none⟩⟩,
     ⟨true, ⟨(some 30), .mov (.t 29), [2], none⟩⟩,
     ⟨false, ⟨(some 31), .faddr 4 (.t 5), [3], (some (30, false))⟩⟩,
     ⟨false, ⟨(some 32), .load none (.t 31), [4, 3], (some (30, false))⟩⟩,
     ⟨false, ⟨(some 33), .bin .gtr (.t 32) (.c (.int .i64 (.ofNat 4))), [5, 3], (some (30, false))⟩⟩,
     ⟨true, ⟨(some 34), .pick (.t 30) (.c (.bool true)) (.t 33), [3, 6], none⟩⟩,
     ⟨true, ⟨(some 26), .mov (.t 34), [7, 3], none⟩⟩] [] 19195232256)
   (.cond (.t 26)
    (.seq (.region [⟨true, ⟨(some 2), .mov (.c (.int .i64 (.ofNat 2))), [], none⟩⟩] [] 69284332051496)
    .ret)
    (.seq (.region [⟨true, ⟨(some 36), .faddr 4 (.t 5), [], none⟩⟩,
      ⟨true, ⟨(some 37), .load none (.t 36), [0], none⟩⟩,
      ⟨true, ⟨(some 38), .bin .neq (.t 37) (.c (.int .i64 (.ofNat 0))), [1], none⟩⟩,
      ⟨true, ⟨(some 39), .mov (.t 38), [2], none⟩⟩,
      ⟨false, ⟨(some 40), .faddr 1 (.t 5), [3], (some (39, true))⟩⟩,
      ⟨false, ⟨(some 41), .load none (.t 40), [4, 3], (some (39, true))⟩⟩,
      ⟨false, ⟨(some 42), .mov (.t 41), [5, 3, 3], (some (39, true))⟩⟩,
      ⟨false, ⟨(some 43), .faddr 2 (.t 5), [6], (some (42, false))⟩⟩,
      ⟨false, ⟨(some 44), .load none (.t 43), [7, 6], (some (42, false))⟩⟩,
      ⟨false, ⟨(some 45), .pick (.t 42) (.c (.bool true)) (.t 44), [6, 8, 3], (some (39, true))⟩⟩,
      ⟨true, ⟨(some 46), .pick (.t 39) (.t 45) (.c (.bool false)), [3, 9], none⟩⟩,
      ⟨true, ⟨(some 35), .mov (.t 46), [10, 6], none⟩⟩] [] 71399603437568)
    (.cond (.t 35)
     (.seq (.region [⟨true, ⟨(some 2), .mov (.c (.int .i64 (.ofNat 13))), [], none⟩⟩] [] 69318624681000)
     .ret)
     .skip)))))))))
 (.region [⟨true, ⟨(some 47), .mov (.t 3), [], none⟩⟩,
   ⟨true, ⟨(some 48), .faddr 0 (.t 5), [], none⟩⟩,
   ⟨true, ⟨(some 49), .load none (.t 48), [1], none⟩⟩,
   ⟨false, ⟨none, .mupd false [.s] (.t 47) (.t 49) (.c (.bool true)), [0, 2, 0, 1, 2], none⟩⟩] [] 985196778225700))))
 (.region [⟨true, ⟨(some 50), .bin .add (.t 12) (.c (.int .i64 (.ofNat 1))), [], none⟩⟩,
   ⟨false, ⟨(some 12), .mov (.t 50), [0], none⟩⟩] [] 1125899906842624)))))))
 (.seq (.region [⟨true, ⟨(some 2), .mov (.c (.int .i64 (.ofNat 0))), [], none⟩⟩] [] 69284264942600)
 .ret)))))⟩
def f59 : FFn := ⟨68, [.tmp 4, .tmp 5],
 (.seq (.region [⟨true, ⟨(some 2), .box .dyn (.t 0), [], none⟩⟩,
   ⟨true, ⟨(some 4), .mov (.c .nilptr), [], none⟩⟩,
   ⟨true, ⟨(some 5), .mov (.c (.int .i64 (.ofNat 0))), [1], none⟩⟩] [] 49)
 (.seq (.seq (.region [⟨true, ⟨(some 13), .load (some 5) (.t 2), [], none⟩⟩,
   ⟨true, ⟨(some 14), .mov (.t 1), [], none⟩⟩,
   ⟨true, ⟨(some 15), .call .heap (.f 110) [(.t 13), (.t 14)], [0, 1], none⟩⟩,
   ⟨true, ⟨(some 6), .mov (.t 15), [2, 2, 0, 1, 2], none⟩⟩] [] 57344)
 (.seq (.region [⟨true, ⟨(some 16), .mov (.t 6), [], none⟩⟩,
   ⟨true, ⟨(some 17), .bin .neq (.t 16) (.c (.int .i64 (.ofNat 0))), [0], none⟩⟩] [] 65536)
 (.cond (.t 17)
  (.seq (.region [⟨true, ⟨(some 18), .mov (.t 6), [], none⟩⟩,
    ⟨true, ⟨(some 4), .mov (.c .nilptr), [], none⟩⟩,
    ⟨true, ⟨(some 5), .mov (.t 18), [0, 1, 0, 1], none⟩⟩] [] 393286)
  .ret)
  .skip)))
 (.seq (.region [⟨true, ⟨(some 20), .load (some 5) (.t 2), [], none⟩⟩,
   ⟨true, ⟨(some 21), .mov (.t 1), [], none⟩⟩,
   ⟨true, ⟨(some 22), .call .heap (.f 111) [(.t 20), (.t 21)], [0, 1], none⟩⟩,
   ⟨true, ⟨(some 19), .mov (.t 22), [2], none⟩⟩,
   ⟨true, ⟨(some 23), .extract 0 (.t 19), [3], none⟩⟩,
   ⟨true, ⟨(some 24), .extract 1 (.t 19), [3], none⟩⟩,
   ⟨true, ⟨(some 25), .extract 2 (.t 19), [3], none⟩⟩,
   ⟨true, ⟨(some 7), .mov (.t 23), [4, 2, 0, 1, 2, 3, 4], none⟩⟩,
   ⟨true, ⟨(some 8), .mov (.t 24), [5, 7, 0, 1, 2, 3, 4, 5, 7], none⟩⟩,
   ⟨true, ⟨(some 9), .mov (.t 25), [6, 8, 0, 1, 2, 3, 4, 5, 6, 7, 8], none⟩⟩] [] 66715766)
 (.seq (.seq (.region [⟨true, ⟨(some 26), .mov (.t 9), [], none⟩⟩,
   ⟨true, ⟨(some 27), .bin .neq (.t 26) (.c (.int .i64 (.ofNat 0))), [0], none⟩⟩] [] 67108864)
 (.cond (.t 27)
  (.seq (.region [⟨true, ⟨(some 28), .mov (.t 9), [], none⟩⟩,
    ⟨true, ⟨(some 4), .mov (.c .nilptr), [], none⟩⟩,
    ⟨true, ⟨(some 5), .mov (.t 28), [0, 1, 0, 1], none⟩⟩] [] 402654080)
  .ret)
  .skip))
 (.seq (.region [⟨true, ⟨(some 29), .mov (.t 7), [], none⟩⟩,
   ⟨true, ⟨(some 30), .mov (.t 8), [], none⟩⟩,
   ⟨true, ⟨(some 31), .mov (.t 7), [], none⟩⟩,
   ⟨true, ⟨(some 32), .len 1 (.t 31), [2], none⟩⟩,
   ⟨true, ⟨(some 33), .mkslice .dyn 1 24 [.nilsl] (.t 32) (.t 32), [3, 3], none⟩⟩,
   ⟨true, ⟨(some 34), .mov (.t 7), [], none⟩⟩,
   ⟨true, ⟨(some 35), .len 1 (.t 34), [5], none⟩⟩,
   ⟨true, ⟨(some 36), .mkslice .dyn 1 8 [(.int .i64 (.ofNat 0))] (.t 35) (.t 35), [6, 6], none⟩⟩,
   ⟨true, ⟨(some 37), .mov (.t 7), [], none⟩⟩,
   ⟨true, ⟨(some 38), .len 1 (.t 37), [8], none⟩⟩,
   ⟨true, ⟨(some 39), .mkslice .dyn 1 8 [(.int .i64 (.ofNat 0))] (.t 38) (.t 38), [9, 9], none⟩⟩,
   ⟨true, ⟨(some 40), .build [.nilsl, .nilsl, .nilsl, .nilsl, .nilsl] [(0, 1, (.t 29)), (1, 1, (.t 30)), (2, 1, (.t 33)), (3, 1, (.t 36)), (4, 1, (.t 39))], [0, 1, 4, 7, 10], none⟩⟩,
   ⟨true, ⟨(some 41), .box .dyn (.t 40), [11], none⟩⟩,
   ⟨true, ⟨(some 10), .mov (.t 41), [12, 0, 1, 2, 3, 4, 5, 6, 7, 8, 9, 10, 11, 12], none⟩⟩] [(4, 6), (4, 9), (7, 9)] 4397643858608)
 (.seq (.seq (.region [⟨true, ⟨(some 42), .mov (.t 8), [], none⟩⟩,
   ⟨true, ⟨(some 43), .len 1 (.t 42), [0], none⟩⟩,
   ⟨true, ⟨(some 44), .mov (.c (.int .i64 (.ofNat 0))), [], none⟩⟩] [] 256)
 (.block 0 (.loop (.seq (.region [⟨true, ⟨(some 45), .bin .lss (.t 44) (.t 43), [], none⟩⟩] [] 0)
 (.seq (.cond (.t 45)
  .skip
  (.exit 0))
 (.seq (.block 1 (.seq (.region [⟨true, ⟨(some 46), .iaddr none 4 (.t 42) (.t 44), [], none⟩⟩,
   ⟨true, ⟨(some 47), .load (some 4) (.t 46), [0], none⟩⟩,
   ⟨true, ⟨(some 12), .alloc .dyn (.agg [(.int .i64 (.ofNat 0)), (.int .i64 (.ofNat 0)), (.int .i64 (.ofNat 0)), (.int .i64 (.ofNat 0))]), [], none⟩⟩,
   ⟨false, ⟨none, .store 4 (.t 12) (.t 47), [2, 1, 0, 1, 2], none⟩⟩] [] 246290604621824)
 (.region [⟨true, ⟨(some 48), .mov (.t 10), [], none⟩⟩,
   ⟨true, ⟨(some 49), .nilchk (.t 48), [0], none⟩⟩,
   ⟨true, ⟨(some 50), .faddr 2 (.t 49), [1], none⟩⟩,
   ⟨true, ⟨(some 51), .load none (.t 50), [2], none⟩⟩,
   ⟨true, ⟨(some 52), .faddr 0 (.t 12), [], none⟩⟩,
   ⟨true, ⟨(some 53), .load none (.t 52), [4], none⟩⟩,
   ⟨true, ⟨(some 54), .mov (.t 10), [], none⟩⟩,
   ⟨true, ⟨(some 55), .nilchk (.t 54), [6], none⟩⟩,
   ⟨true, ⟨(some 56), .faddr 2 (.t 55), [7], none⟩⟩,
   ⟨true, ⟨(some 57), .load none (.t 56), [8], none⟩⟩,
   ⟨true, ⟨(some 58), .faddr 0 (.t 12), [], none⟩⟩,
   ⟨true, ⟨(some 59), .load none (.t 58), [10], none⟩⟩,
   ⟨true, ⟨(some 60), .iaddr none 1 (.t 57) (.t 59), [9, 11], none⟩⟩,
   ⟨true, ⟨(some 61), .load none (.t 60), [12], none⟩⟩,
   ⟨true, ⟨(some 62), .load (some 4) (.t 12), [], none⟩⟩,
   ⟨true, ⟨(some 63), .bslice false .dyn 4 1 [(.int .i64 (.ofNat 0)), (.int .i64 (.ofNat 0)), (.int .i64 (.ofNat 0)), (.int .i64 (.ofNat 0))] [(0, 4, (.t 62))], [14], none⟩⟩,
   ⟨true, ⟨(some 64), .append .dyn 4 32 (.t 61) (.t 63), [13, 15], none⟩⟩,
   ⟨true, ⟨(some 65), .iaddr none 1 (.t 51) (.t 53), [3, 5, 0, 1, 2, 3, 4, 5, 6, 7, 8, 9, 10, 11, 12, 13, 14, 15, 16], none⟩⟩,
   ⟨false, ⟨none, .store 1 (.t 65) (.t 64), [17, 16, 16, 0, 1, 2, 3, 4, 5, 6, 7, 8, 9, 10, 11, 12, 13, 14, 15, 16], none⟩⟩] [(3, 16), (5, 16)] 73786694819861499904)))
 (.region [⟨true, ⟨(some 66), .bin .add (.t 44) (.c (.int .i64 (.ofNat 1))), [], none⟩⟩,
   ⟨false, ⟨(some 44), .mov (.t 66), [0], none⟩⟩] [] 73786976294838206464)))))))
 (.seq (.region [⟨true, ⟨(some 67), .mov (.t 10), [], none⟩⟩,
   ⟨true, ⟨(some 4), .mov (.t 67), [0, 0], none⟩⟩,
   ⟨true, ⟨(some 5), .mov (.c (.int .i64 (.ofNat 0))), [1, 0, 1], none⟩⟩] [] 147573983376001991680)
 .ret)))))))⟩
def f60 : FFn := ⟨79, [.tmp 2, .tmp 3],
 (.seq (.region [⟨true, ⟨(some 2), .mov (.c (.int .i64 (.ofNat 0))), [], none⟩⟩,
   ⟨true, ⟨(some 3), .mov (.c (.bool false)), [0], none⟩⟩] [] 8)
 (.seq (.seq (.region [⟨true, ⟨(some 8), .mov (.t 0), [], none⟩⟩,
   ⟨true, ⟨(some 9), .nilchk (.t 8), [0], none⟩⟩,
   ⟨true, ⟨(some 10), .faddr 0 (.t 9), [1], none⟩⟩,
   ⟨true, ⟨(some 11), .load none (.t 10), [2], none⟩⟩,
   ⟨true, ⟨(some 12), .len 1 (.t 11), [3], none⟩⟩,
   ⟨true, ⟨(some 13), .mov (.c (.int .i64 (.ofNat 0))), [], none⟩⟩] [] 1792)
 (.block 0 (.loop (.seq (.region [⟨true, ⟨(some 14), .bin .lss (.t 13) (.t 12), [], none⟩⟩] [] 0)
 (.seq (.cond (.t 14)
  .skip
  (.exit 0))
 (.seq (.block 1 (.seq (.region [⟨true, ⟨(some 15), .mov (.t 13), [], none⟩⟩,
   ⟨true, ⟨(some 16), .iaddr none 3 (.t 11) (.t 13), [], none⟩⟩,
   ⟨true, ⟨(some 17), .load (some 3) (.t 16), [1], none⟩⟩,
   ⟨true, ⟨(some 5), .alloc .dyn (.agg [(.int .i64 (.ofNat 0)), (.bool false), (.int .i64 (.ofNat 0))]), [], none⟩⟩,
   ⟨true, ⟨(some 4), .mov (.t 15), [0, 0, 1, 2, 3], none⟩⟩,
   ⟨false, ⟨none, .store 3 (.t 5) (.t 17), [3, 2, 4, 0, 1, 2, 3, 4], none⟩⟩] [] 245760)
 (.seq (.seq (.region [⟨true, ⟨(some 18), .faddr 1 (.t 5), [], none⟩⟩,
   ⟨true, ⟨(some 19), .load none (.t 18), [0], none⟩⟩,
   ⟨true, ⟨(some 20), .mov (.t 19), [1], none⟩⟩,
   ⟨false, ⟨(some 21), .mov (.t 0), [2], (some (20, true))⟩⟩,
   ⟨false, ⟨(some 22), .mov (.t 4), [2], (some (20, true))⟩⟩,
   ⟨false, ⟨(some 23), .call .heap (.f 112) [(.t 21), (.t 22)], [3, 4, 2, 2], (some (20, true))⟩⟩,
   ⟨false, ⟨(some 24), .un .not (.t 23), [5, 2], (some (20, true))⟩⟩,
   ⟨true, ⟨(some 25), .pick (.t 20) (.t 24) (.c (.bool false)), [2, 6], none⟩⟩] [] 1835008)
 (.cond (.t 25)
  (.seq (.region [⟨false, ⟨(some 2), .mov (.c (.int .i64 (.ofNat 0))), [], none⟩⟩,
    ⟨true, ⟨(some 3), .mov (.c (.bool false)), [0, 0], none⟩⟩] [] 36821430553446201393)
  .ret)
  .skip))
 (.seq (.region [⟨true, ⟨(some 26), .faddr 1 (.t 5), [], none⟩⟩,
   ⟨true, ⟨(some 27), .load none (.t 26), [0], none⟩⟩,
   ⟨true, ⟨(some 28), .un .not (.t 27), [1], none⟩⟩] [] 234881064)
 (.cond (.t 28)
  (.region [⟨true, ⟨(some 29), .mov (.t 0), [], none⟩⟩,
    ⟨true, ⟨(some 30), .nilchk (.t 29), [0], none⟩⟩,
    ⟨true, ⟨(some 31), .faddr 3 (.t 30), [1], none⟩⟩,
    ⟨true, ⟨(some 32), .load none (.t 31), [2], none⟩⟩,
    ⟨true, ⟨(some 33), .mov (.t 4), [], none⟩⟩,
    ⟨true, ⟨(some 34), .iaddr none 1 (.t 32) (.t 33), [3, 4, 0, 1, 2, 3, 4], none⟩⟩,
    ⟨false, ⟨none, .store 1 (.t 34) (.c (.int .i64 (.negSucc 0))), [5, 0, 1, 2, 3, 4], none⟩⟩] [] 34091302928)
  .skip)))))
 (.region [⟨true, ⟨(some 35), .bin .add (.t 13) (.c (.int .i64 (.ofNat 1))), [], none⟩⟩,
   ⟨false, ⟨(some 13), .mov (.t 35), [0], none⟩⟩] [] 34628173840)))))))
 (.seq (.seq (.region [⟨true, ⟨(some 36), .mov (.t 0), [], none⟩⟩,
   ⟨true, ⟨(some 37), .nilchk (.t 36), [0], none⟩⟩,
   ⟨true, ⟨(some 38), .faddr 1 (.t 37), [1], none⟩⟩,
   ⟨true, ⟨(some 39), .load none (.t 38), [2], none⟩⟩,
   ⟨true, ⟨(some 40), .len 1 (.t 39), [3], none⟩⟩,
   ⟨true, ⟨(some 41), .mov (.c (.int .i64 (.ofNat 0))), [], none⟩⟩] [] 481067808768)
 (.block 2 (.loop (.seq (.region [⟨true, ⟨(some 42), .bin .lss (.t 41) (.t 40), [], none⟩⟩] [] 0)
 (.seq (.cond (.t 42)
  .skip
  (.exit 2))
 (.seq (.block 3 (.seq (.region [⟨true, ⟨(some 43), .iaddr none 4 (.t 39) (.t 41), [], none⟩⟩,
   ⟨true, ⟨(some 44), .load (some 4) (.t 43), [0], none⟩⟩,
   ⟨true, ⟨(some 7), .alloc .dyn (.agg [(.int .i64 (.ofNat 0)), (.int .i64 (.ofNat 0)), (.int .i64 (.ofNat 0)), (.int .i64 (.ofNat 0))]), [], none⟩⟩,
   ⟨false, ⟨none, .store 4 (.t 7) (.t 44), [2, 1, 0, 1, 2], none⟩⟩] [] 30786325577728)
 (.seq (.region [⟨true, ⟨(some 45), .mov (.t 0), [], none⟩⟩,
   ⟨true, ⟨(some 46), .nilchk (.t 45), [0], none⟩⟩,
   ⟨true, ⟨(some 47), .faddr 0 (.t 46), [1], none⟩⟩,
   ⟨true, ⟨(some 48), .load none (.t 47), [2], none⟩⟩,
   ⟨true, ⟨(some 49), .faddr 0 (.t 7), [], none⟩⟩,
   ⟨true, ⟨(some 50), .load none (.t 49), [4], none⟩⟩,
   ⟨true, ⟨(some 51), .iaddr none 3 (.t 48) (.t 50), [3, 5], none⟩⟩,
   ⟨true, ⟨(some 52), .faddr 1 (.t 51), [6], none⟩⟩,
   ⟨true, ⟨(some 53), .load none (.t 52), [7], none⟩⟩,
   ⟨true, ⟨(some 54), .un .not (.t 53), [8], none⟩⟩,
   ⟨true, ⟨(some 55), .mov (.t 54), [9], none⟩⟩,
   ⟨false, ⟨(some 56), .mov (.t 0), [10], (some (55, true))⟩⟩,
   ⟨false, ⟨(some 57), .nilchk (.t 56), [11, 10], (some (55, true))⟩⟩,
   ⟨false, ⟨(some 58), .faddr 0 (.t 57), [12, 10], (some (55, true))⟩⟩,
   ⟨false, ⟨(some 59), .load none (.t 58), [13, 10], (some (55, true))⟩⟩,
   ⟨false, ⟨(some 60), .faddr 3 (.t 7), [10], (some (55, true))⟩⟩,
   ⟨false, ⟨(some 61), .load none (.t 60), [15, 10], (some (55, true))⟩⟩,
   ⟨false, ⟨(some 62), .iaddr none 3 (.t 59) (.t 61), [14, 16, 10], (some (55, true))⟩⟩,
   ⟨false, ⟨(some 63), .faddr 1 (.t 62), [17, 10], (some (55, true))⟩⟩,
   ⟨false, ⟨(some 64), .load none (.t 63), [18, 10], (some (55, true))⟩⟩,
   ⟨true, ⟨(some 65), .pick (.t 55) (.t 64) (.c (.bool false)), [10, 19], none⟩⟩] [] 72022409665839104)
 (.cond (.t 65)
  (.region [⟨true, ⟨(some 66), .mov (.t 2), [], none⟩⟩,
    ⟨true, ⟨(some 67), .mov (.t 0), [], none⟩⟩,
    ⟨true, ⟨(some 68), .nilchk (.t 67), [1], none⟩⟩,
    ⟨true, ⟨(some 69), .faddr 3 (.t 68), [2], none⟩⟩,
    ⟨true, ⟨(some 70), .load none (.t 69), [3], none⟩⟩,
    ⟨true, ⟨(some 71), .faddr 3 (.t 7), [], none⟩⟩,
    ⟨true, ⟨(some 72), .load none (.t 71), [5], none⟩⟩,
    ⟨true, ⟨(some 73), .iaddr none 1 (.t 70) (.t 72), [4, 6], none⟩⟩,
    ⟨true, ⟨(some 74), .load none (.t 73), [7], none⟩⟩,
    ⟨true, ⟨(some 75), .bin .add (.t 74) (.c (.int .i64 (.ofNat 1))), [8], none⟩⟩,
    ⟨true, ⟨(some 76), .maxmin false [(.t 66), (.t 75)], [0, 9], none⟩⟩,
    ⟨false, ⟨(some 2), .mov (.t 76), [10, 0, 1, 2, 3, 4, 5, 6, 7, 8, 9, 10], none⟩⟩] [] 151078833963681227735168)
  .skip))))
 (.region [⟨true, ⟨(some 77), .bin .add (.t 41) (.c (.int .i64 (.ofNat 1))), [], none⟩⟩,
   ⟨false, ⟨(some 41), .mov (.t 77), [0], none⟩⟩] [] 151152620939976065941632)))))))
 (.seq (.region [⟨true, ⟨(some 78), .mov (.t 2), [], none⟩⟩,
   ⟨false, ⟨(some 2), .mov (.t 78), [0, 0], none⟩⟩,
   ⟨true, ⟨(some 3), .mov (.c (.bool true)), [1, 0, 1], none⟩⟩] [] 302268276338058965549057)
 .ret))))⟩
def f61 : FFn := ⟨15, [.cell 8 (some 5)],
 (.seq (.region [⟨true, ⟨(some 8), .alloc .dyn (.agg [(.int .i64 (.ofNat 0)), (.int .i64 (.ofNat 0)), (.int .i64 (.ofNat 0)), (.int .i64 (.ofNat 0)), .nilsl]), [], none⟩⟩] [] 0)
 (.seq (.region [⟨true, ⟨(some 9), .mov (.t 0), [], none⟩⟩,
   ⟨true, ⟨(some 10), .mov (.t 2), [], none⟩⟩,
   ⟨true, ⟨(some 11), .mov (.t 1), [], none⟩⟩,
   ⟨true, ⟨(some 12), .mov (.t 1), [], none⟩⟩,
   ⟨true, ⟨(some 13), .mov (.t 3), [], none⟩⟩,
   ⟨true, ⟨(some 14), .build [(.int .i64 (.ofNat 0)), (.int .i64 (.ofNat 0)), (.int .i64 (.ofNat 0)), (.int .i64 (.ofNat 0)), .nilsl] [(0, 1, (.t 9)), (1, 1, (.t 10)), (2, 1, (.t 11)), (3, 1, (.t 12)), (4, 1, (.t 13))], [0, 1, 2, 3, 4], none⟩⟩,
   ⟨false, ⟨none, .store 5 (.t 8) (.t 14), [5, 0, 1, 2, 3, 4, 5], none⟩⟩] [] 32271)
 .ret))⟩
def f62 : FFn := ⟨14, [.tmp 4],
 (.seq (.region [⟨true, ⟨(some 4), .mov (.c (.int .i64 (.ofNat 0))), [], none⟩⟩] [] 16)
 (.seq (.region [⟨true, ⟨(some 5), .mov (.c (.int .i64 (.ofNat 1))), [], none⟩⟩] [] 0)
 (.seq (.seq (.region [⟨true, ⟨(some 6), .mov (.t 1), [], none⟩⟩,
   ⟨true, ⟨(some 7), .mov (.c (.int .i64 (.ofNat 0))), [], none⟩⟩] [] 2)
 (.block 0 (.loop (.seq (.region [⟨true, ⟨(some 8), .bin .lss (.t 7) (.t 6), [], none⟩⟩] [] 0)
 (.seq (.cond (.t 8)
  .skip
  (.exit 0))
 (.seq (.block 1 (.region [⟨true, ⟨(some 9), .mov (.t 5), [], none⟩⟩,
   ⟨true, ⟨(some 10), .mov (.t 0), [], none⟩⟩,
   ⟨true, ⟨(some 11), .bin .mul (.t 9) (.t 10), [0, 1], none⟩⟩,
   ⟨false, ⟨(some 5), .mov (.t 11), [2, 0, 1, 2], none⟩⟩] [] 3840))
 (.region [⟨true, ⟨(some 12), .bin .add (.t 7) (.c (.int .i64 (.ofNat 1))), [], none⟩⟩,
   ⟨false, ⟨(some 7), .mov (.t 12), [0], none⟩⟩] [] 4096)))))))
 (.seq (.region [⟨true, ⟨(some 13), .mov (.t 5), [], none⟩⟩,
   ⟨true, ⟨(some 4), .mov (.t 13), [0, 0], none⟩⟩] [] 8417)
 .ret))))⟩
def f63 : FFn := ⟨28, [.tmp 4, .tmp 5],
 (.seq (.region [⟨true, ⟨(some 4), .mov (.c .nilsl), [], none⟩⟩,
   ⟨true, ⟨(some 5), .mov (.c (.int .i64 (.ofNat 0))), [0], none⟩⟩] [] 48)
 (.seq (.seq (.region [⟨true, ⟨(some 10), .mov (.t 0), [], none⟩⟩,
   ⟨true, ⟨(some 11), .call .heap (.f 54) [(.t 10)], [0], none⟩⟩,
   ⟨true, ⟨(some 6), .mov (.t 11), [1, 1, 0, 1], none⟩⟩] [] 3072)
 (.seq (.region [⟨true, ⟨(some 12), .mov (.t 6), [], none⟩⟩,
   ⟨true, ⟨(some 13), .bin .neq (.t 12) (.c (.int .i64 (.ofNat 0))), [0], none⟩⟩] [] 4096)
 (.cond (.t 13)
  (.seq (.region [⟨true, ⟨(some 14), .mov (.t 6), [], none⟩⟩,
    ⟨true, ⟨(some 4), .mov (.c .nilsl), [], none⟩⟩,
    ⟨true, ⟨(some 5), .mov (.t 14), [0, 1, 0, 1], none⟩⟩] [] 24643)
  .ret)
  .skip)))
 (.seq (.region [⟨true, ⟨(some 15), .mkmap .dyn, [], none⟩⟩,
   ⟨false, ⟨none, .mupd false [.i] (.t 15) (.c (.int .i64 (.ofNat 1))) (.f 113), [0], none⟩⟩,
   ⟨false, ⟨none, .mupd false [.i] (.t 15) (.c (.int .i64 (.ofNat 2))) (.f 114), [0], none⟩⟩,
   ⟨false, ⟨none, .mupd false [.i] (.t 15) (.c (.int .i64 (.ofNat 3))) (.f 115), [0], none⟩⟩,
   ⟨false, ⟨none, .mupd false [.i] (.t 15) (.c (.int .i64 (.ofNat 4))) (.f 116), [0], none⟩⟩,
   ⟨false, ⟨none, .mupd false [.i] (.t 15) (.c (.int .i64 (.ofNat 5))) (.f 117), [0], none⟩⟩,
   ⟨false, ⟨none, .mupd false [.i] (.t 15) (.c (.int .i64 (.ofNat 6))) (.f 118), [0], none⟩⟩,
   ⟨true, ⟨(some 16), .mov (.t 15), [0, 1, 2, 3, 4, 5, 6], none⟩⟩,
   ⟨true, ⟨(some 7), .mov (.t 16), [7, 0, 1, 2, 3, 4, 5, 6, 7], none⟩⟩] [] 106608)
 (.seq (.region [⟨true, ⟨(some 18), .mov (.t 7), [], none⟩⟩,
   ⟨true, ⟨(some 19), .mov (.t 1), [], none⟩⟩,
   ⟨true, ⟨(some 20), .lookup false [.i] .nilfn true (.t 18) (.t 19), [0, 1], none⟩⟩,
   ⟨true, ⟨(some 17), .mov (.t 20), [2], none⟩⟩,
   ⟨true, ⟨(some 21), .extract 0 (.t 17), [3], none⟩⟩,
   ⟨true, ⟨(some 22), .extract 1 (.t 17), [3], none⟩⟩,
   ⟨true, ⟨(some 8), .mov (.t 21), [4, 0, 1, 2, 3, 4], none⟩⟩,
   ⟨true, ⟨(some 9), .mov (.t 22), [5, 6, 0, 1, 2, 3, 4, 5, 6], none⟩⟩] [] 8257666)
 (.seq (.seq (.region [⟨true, ⟨(some 23), .mov (.t 9), [], none⟩⟩,
   ⟨true, ⟨(some 24), .un .not (.t 23), [0], none⟩⟩] [] 8389120)
 (.cond (.t 24)
  (.seq (.region [⟨true, ⟨(some 4), .mov (.c .nilsl), [], none⟩⟩,
    ⟨true, ⟨(some 5), .mov (.c (.int .i64 (.ofNat 11))), [0, 0], none⟩⟩] [] 16777473)
  .ret)
  .skip))
 (.seq (.region [⟨true, ⟨(some 25), .mov (.t 0), [], none⟩⟩,
   ⟨true, ⟨(some 26), .mov (.t 8), [], none⟩⟩,
   ⟨true, ⟨(some 27), .call .heap (.f 119) [(.t 25), (.t 26)], [0, 1], none⟩⟩,
   ⟨false, ⟨(some 4), .mov (.t 27), [2, 2, 0, 1, 2], none⟩⟩,
   ⟨false, ⟨(some 5), .mov (.c (.int .i64 (.ofNat 0))), [3, 0, 1, 2, 3], none⟩⟩] [] 251658497)
 .ret))))))⟩
def f67 : FFn := ⟨29, [.tmp 2],
 (.seq (.region [⟨true, ⟨(some 1), .box .dyn (.t 0), [], none⟩⟩,
   ⟨true, ⟨(some 2), .mov (.c (.int .i64 (.ofNat 0))), [], none⟩⟩] [] 5)
 (.seq (.seq (.region [⟨true, ⟨(some 5), .faddr 0 (.t 1), [], none⟩⟩,
   ⟨true, ⟨(some 6), .load none (.t 5), [0], none⟩⟩,
   ⟨true, ⟨(some 7), .call .heap (.f 132) [(.t 6), (.c (.int .i64 (.ofNat 32)))], [1], none⟩⟩,
   ⟨true, ⟨(some 3), .mov (.t 7), [2, 2, 0, 1, 2], none⟩⟩] [] 224)
 (.seq (.region [⟨true, ⟨(some 8), .mov (.t 3), [], none⟩⟩,
   ⟨true, ⟨(some 9), .bin .neq (.t 8) (.c (.int .i64 (.ofNat 0))), [0], none⟩⟩] [] 256)
 (.cond (.t 9)
  (.seq (.region [⟨true, ⟨(some 10), .mov (.t 3), [], none⟩⟩,
    ⟨true, ⟨(some 2), .mov (.t 10), [0, 0], none⟩⟩] [] 1546)
  .ret)
  .skip)))
 (.seq (.block 0 (.seq (.region [⟨true, ⟨(some 12), .faddr 1 (.t 1), [], none⟩⟩,
   ⟨true, ⟨(some 13), .load none (.t 12), [0], none⟩⟩,
   ⟨true, ⟨(some 14), .bin .lss (.t 13) (.c (.int .i64 (.ofNat 0))), [1], none⟩⟩,
   ⟨true, ⟨(some 11), .mov (.t 14), [2], none⟩⟩] [] 29196)
 (.cond (.t 11)
  (.seq (.region [⟨true, ⟨(some 2), .mov (.c (.int .i64 (.ofNat 2))), [], none⟩⟩] [] 2050)
  .ret)
  (.seq (.region [⟨true, ⟨(some 16), .faddr 1 (.t 1), [], none⟩⟩,
    ⟨true, ⟨(some 17), .load none (.t 16), [0], none⟩⟩,
    ⟨true, ⟨(some 18), .bin .gtr (.t 17) (.c (.int .i64 (.ofNat 4096))), [1], none⟩⟩,
    ⟨true, ⟨(some 15), .mov (.t 18), [2], none⟩⟩] [] 460800)
  (.cond (.t 15)
   (.seq (.region [⟨true, ⟨(some 2), .mov (.c (.int .i64 (.ofNat 3))), [], none⟩⟩] [] 32770)
   .ret)
   .skip)))))
 (.seq (.seq (.region [⟨true, ⟨(some 19), .faddr 2 (.t 1), [], none⟩⟩,
   ⟨true, ⟨(some 20), .load none (.t 19), [0], none⟩⟩,
   ⟨true, ⟨(some 21), .faddr 1 (.t 1), [], none⟩⟩,
   ⟨true, ⟨(some 22), .load none (.t 21), [2], none⟩⟩,
   ⟨true, ⟨(some 23), .call .heap (.f 132) [(.t 20), (.t 22)], [1, 3], none⟩⟩,
   ⟨true, ⟨(some 4), .mov (.t 23), [4, 4, 0, 1, 2, 3, 4], none⟩⟩] [] 16285700)
 (.seq (.region [⟨true, ⟨(some 24), .mov (.t 4), [], none⟩⟩,
   ⟨true, ⟨(some 25), .bin .neq (.t 24) (.c (.int .i64 (.ofNat 0))), [0], none⟩⟩] [] 16777216)
 (.cond (.t 25)
  (.seq (.region [⟨true, ⟨(some 26), .mov (.t 4), [], none⟩⟩,
    ⟨true, ⟨(some 2), .mov (.t 26), [0, 0], none⟩⟩] [] 100663314)
  .ret)
  .skip)))
 (.seq (.region [⟨true, ⟨(some 27), .load (some 4) (.t 1), [], none⟩⟩,
   ⟨true, ⟨(some 28), .call .heap (.f 133) [(.t 27)], [0], none⟩⟩,
   ⟨false, ⟨(some 2), .mov (.t 28), [1, 1, 0, 1], none⟩⟩] [] 436207634)
 .ret)))))⟩
def f76 : FFn := ⟨8, [.tmp 2],
 (.seq (.region [⟨true, ⟨(some 2), .mov (.c .nilsl), [], none⟩⟩] [] 4)
 (.seq (.seq (.region [⟨true, ⟨(some 3), .mov (.t 0), [], none⟩⟩,
   ⟨true, ⟨(some 4), .eq (.nil 2) false (.t 3) (.c .nilsl), [0], none⟩⟩] [] 8)
 (.cond (.t 4)
  (.seq (.region [⟨true, ⟨(some 2), .mov (.c .nilsl), [], none⟩⟩] [] 17)
  .ret)
  .skip))
 (.seq (.region [⟨true, ⟨(some 5), .bslice false .dyn 1 0 [] [], [], none⟩⟩,
   ⟨true, ⟨(some 6), .mov (.t 0), [], none⟩⟩,
   ⟨true, ⟨(some 7), .append .dyn 1 8 (.t 5) (.t 6), [0, 1], none⟩⟩,
   ⟨false, ⟨(some 2), .mov (.t 7), [2, 2, 0, 1, 2], none⟩⟩] [] 241)
 .ret)))⟩
def f88 : FFn := ⟨15, [.tmp 2, .tmp 3, .tmp 4],
 (.seq (.region [⟨true, ⟨(some 2), .mov (.c (.int .i64 (.ofNat 0))), [], none⟩⟩,
   ⟨true, ⟨(some 3), .mov (.c (.int .i64 (.ofNat 0))), [0], none⟩⟩,
   ⟨true, ⟨(some 4), .mov (.c (.int .i64 (.ofNat 0))), [1], none⟩⟩] [] 28)
 (.seq (.seq (.region [⟨true, ⟨(some 5), .mov (.t 0), [], none⟩⟩] [] 1)
 (.block 0 (.seq (.region [⟨true, ⟨(some 7), .bin .eql (.t 5) (.c (.int .i64 (.ofNat 1))), [], none⟩⟩,
   ⟨true, ⟨(some 6), .mov (.t 7), [0], none⟩⟩] [] 128)
 (.cond (.t 6)
  (.seq (.region [⟨true, ⟨(some 2), .mov (.c (.int .i64 (.ofNat 1))), [], none⟩⟩,
    ⟨true, ⟨(some 3), .mov (.c (.int .i64 (.ofNat 8))), [0, 0], none⟩⟩,
    ⟨true, ⟨(some 4), .mov (.c (.int .i64 (.ofNat 0))), [1, 0, 1], none⟩⟩] [] 96)
  .ret)
  (.seq (.seq (.region [⟨true, ⟨(some 9), .bin .eql (.t 5) (.c (.int .i64 (.ofNat 2))), [], none⟩⟩,
    ⟨true, ⟨(some 8), .mov (.t 9), [0], none⟩⟩] [] 576)
  (.cond (.t 8)
   .skip
   (.region [⟨true, ⟨(some 10), .bin .eql (.t 5) (.c (.int .i64 (.ofNat 5))), [], none⟩⟩,
     ⟨false, ⟨(some 8), .mov (.t 10), [0], none⟩⟩] [] 1024)))
  (.cond (.t 8)
   (.seq (.region [⟨true, ⟨(some 2), .mov (.c (.int .i64 (.ofNat 2))), [], none⟩⟩,
     ⟨true, ⟨(some 3), .mov (.c (.int .i64 (.ofNat 6))), [0, 0], none⟩⟩,
     ⟨true, ⟨(some 4), .mov (.c (.int .i64 (.ofNat 0))), [1, 0, 1], none⟩⟩] [] 288)
   .ret)
   (.seq (.region [⟨true, ⟨(some 12), .bin .eql (.t 5) (.c (.int .i64 (.ofNat 3))), [], none⟩⟩,
     ⟨true, ⟨(some 11), .mov (.t 12), [0], none⟩⟩] [] 4352)
   (.cond (.t 11)
    (.seq (.region [⟨true, ⟨(some 2), .mov (.c (.int .i64 (.ofNat 2))), [], none⟩⟩,
      ⟨true, ⟨(some 3), .mov (.c (.int .i64 (.ofNat 4))), [0, 0], none⟩⟩,
      ⟨true, ⟨(some 4), .mov (.c (.int .i64 (.ofNat 0))), [1, 0, 1], none⟩⟩] [] 2080)
    .ret)
    (.seq (.region [⟨true, ⟨(some 14), .bin .eql (.t 5) (.c (.int .i64 (.ofNat 4))), [], none⟩⟩,
      ⟨true, ⟨(some 13), .mov (.t 14), [0], none⟩⟩] [] 18464)
    (.cond (.t 13)
     (.seq (.region [⟨true, ⟨(some 2), .mov (.c (.int .i64 (.ofNat 2))), [], none⟩⟩,
       ⟨true, ⟨(some 3), .mov (.c (.int .i64 (.ofNat 8))), [0, 0], none⟩⟩,
       ⟨true, ⟨(some 4), .mov (.c (.int .i64 (.ofNat 0))), [1, 0, 1], none⟩⟩] [] 8192)
     .ret)
     .skip))))))))))
 (.seq (.region [⟨false, ⟨(some 2), .mov (.c (.int .i64 (.ofNat 0))), [], none⟩⟩,
   ⟨false, ⟨(some 3), .mov (.c (.int .i64 (.ofNat 0))), [0, 0], none⟩⟩,
   ⟨false, ⟨(some 4), .mov (.c (.int .i64 (.ofNat 11))), [1, 0, 1], none⟩⟩] [] 8192)
 .ret)))⟩
def f89 : FFn := ⟨36, [.tmp 4],
 (.seq (.region [⟨true, ⟨(some 4), .mov (.c .nilsl), [], none⟩⟩] [] 16)
 (.seq (.region [⟨true, ⟨(some 5), .mov (.c .nilsl), [], none⟩⟩] [] 0)
 (.seq (.seq (.region [⟨true, ⟨(some 9), .mov (.t 0), [], none⟩⟩,
   ⟨true, ⟨(some 10), .mov (.c (.int .i64 (.ofNat 0))), [], none⟩⟩] [] 1)
 (.block 0 (.loop (.seq (.region [⟨true, ⟨(some 11), .bin .lss (.t 10) (.t 9), [], none⟩⟩] [] 0)
 (.seq (.cond (.t 11)
  .skip
  (.exit 0))
 (.seq (.block 1 (.seq (.region [⟨true, ⟨(some 12), .mov (.t 10), [], none⟩⟩,
   ⟨true, ⟨(some 6), .mov (.t 12), [0, 0], none⟩⟩] [] 6144)
 (.seq (.region [⟨true, ⟨(some 13), .mov (.t 1), [], none⟩⟩,
   ⟨true, ⟨(some 14), .len 1 (.t 13), [0], none⟩⟩,
   ⟨true, ⟨(some 15), .mov (.c (.int .i64 (.ofNat 0))), [], none⟩⟩] [] 0)
 (.block 2 (.loop (.seq (.region [⟨true, ⟨(some 16), .bin .lss (.t 15) (.t 14), [], none⟩⟩] [] 0)
 (.seq (.cond (.t 16)
  .skip
  (.exit 2))
 (.seq (.block 3 (.seq (.region [⟨true, ⟨(some 17), .mov (.t 15), [], none⟩⟩,
   ⟨true, ⟨(some 18), .iaddr none 1 (.t 13) (.t 15), [], none⟩⟩,
   ⟨true, ⟨(some 19), .load none (.t 18), [1], none⟩⟩,
   ⟨true, ⟨(some 7), .mov (.t 17), [0, 0, 1, 2], none⟩⟩,
   ⟨true, ⟨(some 8), .mov (.t 19), [2, 3, 0, 1, 2, 3], none⟩⟩] [] 983040)
 (.region [⟨true, ⟨(some 20), .mov (.t 5), [], none⟩⟩,
   ⟨true, ⟨(some 21), .mov (.t 8), [], none⟩⟩,
   ⟨true, ⟨(some 22), .mov (.t 6), [], none⟩⟩,
   ⟨true, ⟨(some 23), .call .heap (.f 91) [(.t 22)], [2], none⟩⟩,
   ⟨true, ⟨(some 24), .bin .add (.t 21) (.t 23), [1, 3], none⟩⟩,
   ⟨true, ⟨(some 25), .mov (.t 7), [], none⟩⟩,
   ⟨true, ⟨(some 26), .mov (.t 1), [], none⟩⟩,
   ⟨true, ⟨(some 27), .len 1 (.t 26), [6], none⟩⟩,
   ⟨true, ⟨(some 28), .bin .sub (.t 27) (.c (.int .i64 (.ofNat 1))), [7], none⟩⟩,
   ⟨true, ⟨(some 29), .bin .lss (.t 25) (.t 28), [5, 8], none⟩⟩,
   ⟨true, ⟨(some 30), .build [(.str []), (.bool false), (.bool false), (.bool false), (.int .i64 (.ofNat 0))] [(0, 1, (.t 24)), (1, 1, (.t 29)), (2, 1, (.c (.bool true)))], [4, 9], none⟩⟩,
   ⟨true, ⟨(some 31), .bslice false .dyn 5 1 [(.str []), (.bool false), (.bool false), (.bool false), (.int .i64 (.ofNat 0))] [(0, 5, (.t 30))], [10], none⟩⟩,
   ⟨true, ⟨(some 32), .append .dyn 5 32 (.t 20) (.t 31), [0, 11, 3], none⟩⟩,
   ⟨false, ⟨(some 5), .mov (.t 32), [12, 12, 0, 1, 2, 3, 4, 5, 6, 7, 8, 9, 10, 11, 12], none⟩⟩] [] 8588886400)))
 (.region [⟨true, ⟨(some 33), .bin .add (.t 15) (.c (.int .i64 (.ofNat 1))), [], none⟩⟩,
   ⟨false, ⟨(some 15), .mov (.t 33), [0], none⟩⟩] [] 8589934592)))))))))
 (.region [⟨true, ⟨(some 34), .bin .add (.t 10) (.c (.int .i64 (.ofNat 1))), [], none⟩⟩,
   ⟨false, ⟨(some 10), .mov (.t 34), [0], none⟩⟩] [] 17179926592)))))))
 (.seq (.region [⟨true, ⟨(some 35), .mov (.t 5), [], none⟩⟩,
   ⟨true, ⟨(some 4), .mov (.t 35), [0, 0], none⟩⟩] [] 34359739938)
 .ret))))⟩
def f90 : FFn := ⟨28, [.cell 4 (some 5)],
 (.seq (.region [⟨true, ⟨(some 4), .alloc .dyn (.agg [(.str []), .nilsl, (.int .i64 (.ofNat 0)), .nilsl, .nilsl]), [], none⟩⟩] [] 0)
 (.seq (.region [⟨true, ⟨(some 6), .mov (.t 1), [], none⟩⟩,
   ⟨true, ⟨(some 7), .bin .mul (.c (.int .i64 (.ofNat 2))) (.t 6), [0], none⟩⟩,
   ⟨true, ⟨(some 8), .mov (.t 1), [], none⟩⟩,
   ⟨true, ⟨(some 9), .bin .mul (.c (.int .i64 (.ofNat 2))) (.t 8), [2], none⟩⟩,
   ⟨true, ⟨(some 10), .bin .add (.t 9) (.c (.int .i64 (.ofNat 1))), [3], none⟩⟩,
   ⟨true, ⟨(some 11), .bslice false .dyn 1 2 [(.int .i64 (.ofNat 0)), (.int .i64 (.ofNat 0))] [(0, 1, (.t 7)), (1, 1, (.t 10))], [1, 4], none⟩⟩,
   ⟨true, ⟨(some 12), .bslice false .dyn 1 1 [(.int .i64 (.ofNat 0))] [(0, 1, (.c (.int .i64 (.ofNat 0))))], [], none⟩⟩,
   ⟨true, ⟨(some 13), .mov (.t 1), [], none⟩⟩,
   ⟨true, ⟨(some 14), .bin .mul (.c (.int .i64 (.ofNat 2))) (.t 13), [7], none⟩⟩,
   ⟨true, ⟨(some 15), .build [(.int .i64 (.ofNat 0)), (.int .i64 (.ofNat 0)), (.int .i64 (.ofNat 0))] [(0, 1, (.c (.int .i64 (.ofNat 0)))), (1, 1, (.t 14)), (2, 1, (.c (.int .i64 (.ofNat 1))))], [8], none⟩⟩,
   ⟨true, ⟨(some 16), .mov (.t 1), [], none⟩⟩,
   ⟨true, ⟨(some 17), .bin .mul (.c (.int .i64 (.ofNat 2))) (.t 16), [10], none⟩⟩,
   ⟨true, ⟨(some 18), .bin .add (.t 17) (.c (.int .i64 (.ofNat 1))), [11], none⟩⟩,
   ⟨true, ⟨(some 19), .build [(.int .i64 (.ofNat 0)), (.int .i64 (.ofNat 0)), (.int .i64 (.ofNat 0))] [(0, 1, (.c (.int .i64 (.ofNat 1)))), (1, 1, (.t 18)), (2, 1, (.c (.int .i64 (.ofNat 0))))], [12], none⟩⟩,
   ⟨true, ⟨(some 20), .bslice false .dyn 3 2 [(.int .i64 (.ofNat 0)), (.int .i64 (.ofNat 0)), (.int .i64 (.ofNat 0)), (.int .i64 (.ofNat 0)), (.int .i64 (.ofNat 0)), (.int .i64 (.ofNat 0))] [(0, 3, (.t 15)), (3, 3, (.t 19))], [9, 13], none⟩⟩,
   ⟨true, ⟨(some 21), .build [.nilsl, (.int .i64 (.ofNat 0)), .nilsl, .nilsl] [(0, 1, (.t 11)), (1, 1, (.c (.int .i64 (.ofNat 2)))), (2, 1, (.t 12)), (3, 1, (.t 20))], [5, 6, 14], none⟩⟩,
   ⟨true, ⟨(some 5), .alloc .dyn (.agg [.nilsl, (.int .i64 (.ofNat 0)), .nilsl, .nilsl]), [], none⟩⟩,
   ⟨false, ⟨none, .store 4 (.t 5) (.t 21), [16, 15, 0, 1, 2, 3, 4, 5, 6, 7, 8, 9, 10, 11, 12, 13, 14, 15, 16], none⟩⟩] [] 4194240)
 (.seq (.region [⟨true, ⟨(some 22), .mov (.t 0), [], none⟩⟩,
   ⟨true, ⟨(some 23), .mov (.t 1), [], none⟩⟩,
   ⟨true, ⟨(some 24), .call .pure (.f 91) [(.t 23)], [1], none⟩⟩,
   ⟨true, ⟨(some 25), .bin .add (.t 22) (.t 24), [0, 2], none⟩⟩,
   ⟨true, ⟨(some 26), .load (some 4) (.t 5), [], none⟩⟩,
   ⟨true, ⟨(some 27), .build [(.str []), .nilsl, (.int .i64 (.ofNat 0)), .nilsl, .nilsl] [(0, 1, (.t 25)), (1, 4, (.t 26))], [3, 4], none⟩⟩,
   ⟨false, ⟨none, .store 5 (.t 4) (.t 27), [5, 2, 0, 1, 2, 3, 4, 5], none⟩⟩] [] 264241187)
 .ret)))⟩
def f91 : FFn := ⟨5, [.tmp 2],
 (.seq (.region [⟨true, ⟨(some 2), .mov (.c (.str [])), [], none⟩⟩] [] 4)
 (.seq (.region [⟨true, ⟨(some 3), .mov (.t 0), [], none⟩⟩,
   ⟨true, ⟨(some 4), .call .heap (.f 156) [(.t 3)], [0], none⟩⟩,
   ⟨true, ⟨(some 2), .mov (.t 4), [1, 1, 0, 1], none⟩⟩] [] 25)
 .ret))⟩
def f92 : FFn := ⟨11, [],
 (.seq (.region [⟨true, ⟨(some 3), .mov (.t 0), [], none⟩⟩,
   ⟨true, ⟨(some 4), .len 1 (.t 3), [0], none⟩⟩,
   ⟨true, ⟨(some 2), .mov (.t 4), [1, 0, 1], none⟩⟩] [] 24)
 (.region [⟨true, ⟨(some 5), .mov (.t 0), [], none⟩⟩,
   ⟨true, ⟨(some 6), .mov (.t 2), [], none⟩⟩,
   ⟨true, ⟨(some 7), .mov (.t 2), [], none⟩⟩,
   ⟨true, ⟨(some 8), .conv .u64 (.t 7), [2], none⟩⟩,
   ⟨true, ⟨(some 9), .call .heap (.f 144) [(.t 8)], [3], none⟩⟩,
   ⟨true, ⟨(some 10), .call .heap (.f 157) [(.t 5), (.c (.int .i64 (.ofNat 0))), (.t 6), (.t 9)], [0, 1, 4, 4], none⟩⟩] [] 2021))⟩
def f96 : FFn := ⟨55, [.tmp 2],
 (.seq (.region [⟨true, ⟨(some 2), .mov (.c (.bool false)), [], none⟩⟩] [] 4)
 (.seq (.seq (.region [⟨true, ⟨(some 6), .mov (.t 0), [], none⟩⟩,
   ⟨true, ⟨(some 7), .len 0 (.t 6), [0], none⟩⟩,
   ⟨true, ⟨(some 8), .mov (.c (.int .i64 (.ofNat 0))), [], none⟩⟩] [] 64)
 (.block 0 (.loop (.seq (.region [⟨true, ⟨(some 9), .bin .lss (.t 8) (.t 7), [], none⟩⟩] [] 0)
 (.seq (.cond (.t 9)
  .skip
  (.exit 0))
 (.seq (.block 1 (.seq (.region [⟨true, ⟨(some 10), .mov (.t 8), [], none⟩⟩,
   ⟨true, ⟨(some 3), .mov (.t 10), [0, 0], none⟩⟩] [] 1536)
 (.seq (.region [⟨true, ⟨(some 11), .mov (.t 0), [], none⟩⟩,
   ⟨true, ⟨(some 12), .mov (.t 3), [], none⟩⟩,
   ⟨true, ⟨(some 13), .index none (.t 11) (.t 12), [0, 1], none⟩⟩,
   ⟨true, ⟨(some 4), .mov (.t 13), [2, 0, 1, 2], none⟩⟩] [] 14336)
 (.seq (.region [⟨true, ⟨(some 14), .mov (.t 4), [], none⟩⟩,
   ⟨true, ⟨(some 15), .bin .geq (.t 14) (.c (.int .u8 (.ofNat 97))), [0], none⟩⟩,
   ⟨true, ⟨(some 16), .mov (.t 15), [1], none⟩⟩,
   ⟨false, ⟨(some 17), .mov (.t 4), [2], (some (16, true))⟩⟩,
   ⟨false, ⟨(some 18), .bin .leq (.t 17) (.c (.int .u8 (.ofNat 122))), [3, 2], (some (16, true))⟩⟩,
   ⟨true, ⟨(some 19), .pick (.t 16) (.t 18) (.c (.bool false)), [2, 4], none⟩⟩,
   ⟨true, ⟨(some 20), .mov (.t 19), [5, 2], none⟩⟩,
   ⟨false, ⟨(some 21), .mov (.t 4), [6], (some (20, false))⟩⟩,
   ⟨false, ⟨(some 22), .bin .geq (.t 21) (.c (.int .u8 (.ofNat 65))), [7, 6], (some (20, false))⟩⟩,
   ⟨false, ⟨(some 23), .mov (.t 22), [8, 6, 6], (some (20, false))⟩⟩,
   ⟨false, ⟨(some 24), .mov (.t 4), [9], (some (23, true))⟩⟩,
   ⟨false, ⟨(some 25), .bin .leq (.t 24) (.c (.int .u8 (.ofNat 90))), [10, 9], (some (23, true))⟩⟩,
   ⟨false, ⟨(some 26), .pick (.t 23) (.t 25) (.c (.bool false)), [9, 11, 6], (some (20, false))⟩⟩,
   ⟨true, ⟨(some 27), .pick (.t 20) (.c (.bool true)) (.t 26), [6, 12], none⟩⟩,
   ⟨true, ⟨(some 28), .mov (.t 27), [13, 9], none⟩⟩,
   ⟨false, ⟨(some 29), .mov (.t 4), [14], (some (28, false))⟩⟩,
   ⟨false, ⟨(some 30), .bin .eql (.t 29) (.c (.int .u8 (.ofNat 95))), [15, 14], (some (28, false))⟩⟩,
   ⟨true, ⟨(some 31), .pick (.t 28) (.c (.bool true)) (.t 30), [14, 16], none⟩⟩,
   ⟨true, ⟨(some 5), .mov (.t 31), [17, 14, 0, 1, 2, 3, 4, 5, 6, 7, 8, 9, 10, 11, 12, 13, 14, 15, 16, 17], none⟩⟩] [] 2551824384)
 (.seq (.region [⟨true, ⟨(some 32), .mov (.t 5), [], none⟩⟩,
   ⟨true, ⟨(some 33), .un .not (.t 32), [0], none⟩⟩,
   ⟨true, ⟨(some 34), .mov (.t 33), [1], none⟩⟩,
   ⟨false, ⟨(some 35), .mov (.t 3), [2], (some (34, true))⟩⟩,
   ⟨false, ⟨(some 36), .bin .eql (.t 35) (.c (.int .i64 (.ofNat 0))), [3, 2], (some (34, true))⟩⟩,
   ⟨false, ⟨(some 37), .mov (.t 36), [4, 2, 2], (some (34, true))⟩⟩,
   ⟨false, ⟨(some 38), .mov (.t 4), [5], (some (37, false))⟩⟩,
   ⟨false, ⟨(some 39), .bin .lss (.t 38) (.c (.int .u8 (.ofNat 48))), [6, 5], (some (37, false))⟩⟩,
   ⟨false, ⟨(some 40), .pick (.t 37) (.c (.bool true)) (.t 39), [5, 7, 2], (some (34, true))⟩⟩,
   ⟨false, ⟨(some 41), .mov (.t 40), [8, 5, 2], (some (34, true))⟩⟩,
   ⟨false, ⟨(some 42), .mov (.t 4), [9], (some (41, false))⟩⟩,
   ⟨false, ⟨(some 43), .bin .gtr (.t 42) (.c (.int .u8 (.ofNat 57))), [10, 9], (some (41, false))⟩⟩,
   ⟨false, ⟨(some 44), .pick (.t 41) (.c (.bool true)) (.t 43), [9, 11, 2], (some (34, true))⟩⟩,
   ⟨true, ⟨(some 45), .pick (.t 34) (.t 44) (.c (.bool false)), [2, 12], none⟩⟩] [] 30064771128)
 (.cond (.t 45)
  (.seq (.region [⟨true, ⟨(some 2), .mov (.c (.bool false)), [], none⟩⟩] [] 15832934823362945)
  .ret)
  .skip))))))
 (.region [⟨true, ⟨(some 46), .bin .add (.t 8) (.c (.int .i64 (.ofNat 1))), [], none⟩⟩,
   ⟨false, ⟨(some 8), .mov (.t 46), [0], none⟩⟩] [] 105553116266500)))))))
 (.seq (.region [⟨true, ⟨(some 47), .mov (.t 0), [], none⟩⟩,
   ⟨true, ⟨(some 48), .len 0 (.t 47), [0], none⟩⟩,
   ⟨true, ⟨(some 49), .bin .gtr (.t 48) (.c (.int .i64 (.ofNat 0))), [1], none⟩⟩,
   ⟨true, ⟨(some 50), .mov (.t 49), [2], none⟩⟩,
   ⟨false, ⟨(some 51), .mov (.t 0), [3], (some (50, true))⟩⟩,
   ⟨false, ⟨(some 52), .len 0 (.t 51), [4, 3], (some (50, true))⟩⟩,
   ⟨false, ⟨(some 53), .bin .leq (.t 52) (.c (.int .i64 (.ofNat 32))), [5, 3], (some (50, true))⟩⟩,
   ⟨true, ⟨(some 54), .pick (.t 50) (.t 53) (.c (.bool false)), [3, 6], none⟩⟩,
   ⟨true, ⟨(some 2), .mov (.t 54), [7, 3, 0, 1, 2, 3, 4, 5, 6, 7], none⟩⟩] [] 35923211286086017)
 .ret)))⟩
def f98 : FFn := ⟨9, [.tmp 4],
 (.seq (.region [⟨true, ⟨(some 4), .mov (.c (.bool false)), [], none⟩⟩] [] 16)
 (.seq (.region [⟨true, ⟨(some 5), .mov (.t 0), [], none⟩⟩,
   ⟨true, ⟨(some 6), .mov (.t 1), [], none⟩⟩,
   ⟨true, ⟨(some 7), .call .heap (.f 159) [(.t 5), (.t 6)], [0, 1], none⟩⟩,
   ⟨true, ⟨(some 8), .bin .geq (.t 7) (.c (.int .i64 (.ofNat 0))), [2], none⟩⟩,
   ⟨true, ⟨(some 4), .mov (.t 8), [3, 2, 0, 1, 2, 3], none⟩⟩] [] 483)
 .ret))⟩
def f110 : FFn := ⟨37, [.tmp 4],
 (.seq (.region [⟨true, ⟨(some 2), .box .dyn (.t 0), [], none⟩⟩,
   ⟨true, ⟨(some 4), .mov (.c (.int .i64 (.ofNat 0))), [], none⟩⟩] [] 17)
 (.seq (.seq (.region [⟨true, ⟨(some 13), .load (some 5) (.t 2), [], none⟩⟩,
   ⟨true, ⟨(some 14), .mov (.t 1), [], none⟩⟩,
   ⟨true, ⟨(some 15), .call .heap (.f 162) [(.t 13), (.t 14)], [0, 1], none⟩⟩,
   ⟨true, ⟨(some 5), .mov (.t 15), [2, 2, 0, 1, 2], none⟩⟩] [] 57346)
 (.seq (.region [⟨true, ⟨(some 16), .mov (.t 5), [], none⟩⟩,
   ⟨true, ⟨(some 17), .bin .neq (.t 16) (.c (.int .i64 (.ofNat 0))), [0], none⟩⟩] [] 65536)
 (.cond (.t 17)
  (.seq (.region [⟨true, ⟨(some 18), .mov (.t 5), [], none⟩⟩,
    ⟨true, ⟨(some 4), .mov (.t 18), [0, 0], none⟩⟩] [] 393252)
  .ret)
  .skip)))
 (.seq (.region [⟨true, ⟨(some 20), .load (some 5) (.t 2), [], none⟩⟩,
   ⟨true, ⟨(some 21), .call .heap (.f 163) [(.t 20)], [0], none⟩⟩,
   ⟨true, ⟨(some 19), .mov (.t 21), [1], none⟩⟩,
   ⟨true, ⟨(some 22), .extract 0 (.t 19), [2], none⟩⟩,
   ⟨true, ⟨(some 23), .extract 1 (.t 19), [2], none⟩⟩,
   ⟨true, ⟨(some 24), .extract 2 (.t 19), [2], none⟩⟩,
   ⟨true, ⟨(some 6), .mov (.t 22), [3, 1, 0, 1, 2, 3], none⟩⟩,
   ⟨true, ⟨(some 7), .mov (.t 23), [4, 6, 0, 1, 2, 3, 4, 6], none⟩⟩,
   ⟨true, ⟨(some 8), .mov (.t 24), [5, 7, 0, 1, 2, 3, 4, 5, 6, 7], none⟩⟩] [] 33161584)
 (.seq (.seq (.region [⟨true, ⟨(some 26), .load (some 5) (.t 2), [], none⟩⟩,
   ⟨true, ⟨(some 27), .call .heap (.f 164) [(.t 26)], [0], none⟩⟩,
   ⟨true, ⟨(some 25), .mov (.t 27), [1], none⟩⟩,
   ⟨true, ⟨(some 28), .extract 0 (.t 25), [2], none⟩⟩,
   ⟨true, ⟨(some 29), .extract 1 (.t 25), [2], none⟩⟩,
   ⟨true, ⟨(some 30), .extract 2 (.t 25), [2], none⟩⟩,
   ⟨true, ⟨(some 31), .extract 3 (.t 25), [2], none⟩⟩,
   ⟨true, ⟨(some 9), .mov (.t 28), [3, 1, 0, 1, 2, 3], none⟩⟩,
   ⟨true, ⟨(some 10), .mov (.t 29), [4, 7, 0, 1, 2, 3, 4, 7], none⟩⟩,
   ⟨true, ⟨(some 11), .mov (.t 30), [5, 8, 0, 1, 2, 3, 4, 5, 7, 8], none⟩⟩,
   ⟨true, ⟨(some 12), .mov (.t 31), [6, 9, 0, 1, 2, 3, 4, 5, 6, 7, 8, 9], none⟩⟩] [] 4261418500)
 (.seq (.region [⟨true, ⟨(some 32), .mov (.t 7), [], none⟩⟩,
   ⟨true, ⟨(some 33), .un .not (.t 32), [0], none⟩⟩,
   ⟨true, ⟨(some 34), .mov (.t 33), [1], none⟩⟩,
   ⟨true, ⟨(some 35), .mov (.t 11), [2], (some (34, false))⟩⟩,
   ⟨true, ⟨(some 36), .pick (.t 34) (.c (.bool true)) (.t 35), [2, 3], none⟩⟩] [] 64424511616)
 (.cond (.t 36)
  (.seq (.region [⟨true, ⟨(some 4), .mov (.c (.int .i64 (.ofNat 25))), [], none⟩⟩] [] 68719476736)
  .ret)
  .skip)))
 (.seq (.region [⟨false, ⟨(some 4), .mov (.c (.int .i64 (.ofNat 0))), [], none⟩⟩] [] 68719476736)
 .ret)))))⟩
def f111 : FFn := ⟨95, [.tmp 4, .tmp 5, .tmp 6],
 (.seq (.region [⟨true, ⟨(some 2), .box .dyn (.t 0), [], none⟩⟩,
   ⟨true, ⟨(some 4), .mov (.c .nilsl), [], none⟩⟩,
   ⟨true, ⟨(some 5), .mov (.c .nilsl), [1], none⟩⟩,
   ⟨true, ⟨(some 6), .mov (.c (.int .i64 (.ofNat 0))), [2], none⟩⟩] [] 81)
 (.seq (.seq (.region [⟨true, ⟨(some 16), .load (some 5) (.t 2), [], none⟩⟩,
   ⟨true, ⟨(some 17), .mov (.t 1), [], none⟩⟩,
   ⟨true, ⟨(some 18), .call .heap (.f 162) [(.t 16), (.t 17)], [0, 1], none⟩⟩,
   ⟨true, ⟨(some 7), .mov (.t 18), [2, 2, 0, 1, 2], none⟩⟩] [] 458752)
 (.seq (.region [⟨true, ⟨(some 19), .mov (.t 7), [], none⟩⟩,
   ⟨true, ⟨(some 20), .bin .neq (.t 19) (.c (.int .i64 (.ofNat 0))), [0], none⟩⟩] [] 524288)
 (.cond (.t 20)
  (.seq (.region [⟨true, ⟨(some 21), .mov (.t 7), [], none⟩⟩,
    ⟨true, ⟨(some 4), .mov (.c .nilsl), [], none⟩⟩,
    ⟨false, ⟨(some 5), .mov (.c .nilsl), [1, 1], none⟩⟩,
    ⟨true, ⟨(some 6), .mov (.t 21), [0, 2, 0, 1, 2], none⟩⟩] [] 3145862)
  .ret)
  .skip)))
 (.seq (.seq (.region [⟨true, ⟨(some 22), .faddr 0 (.t 2), [], none⟩⟩,
   ⟨true, ⟨(some 23), .faddr 1 (.t 22), [0], none⟩⟩,
   ⟨true, ⟨(some 24), .load none (.t 23), [1], none⟩⟩,
   ⟨true, ⟨(some 25), .bin .eql (.t 24) (.c (.int .i64 (.ofNat 0))), [2], none⟩⟩] [] 30408912)
 (.cond (.t 25)
  (.seq (.region [⟨true, ⟨(some 4), .mov (.c .nilsl), [], none⟩⟩,
    ⟨false, ⟨(some 5), .mov (.c .nilsl), [0, 0], none⟩⟩,
    ⟨true, ⟨(some 6), .mov (.c (.int .i64 (.ofNat 0))), [1, 0, 1], none⟩⟩] [] 33554438)
  .ret)
  .skip))
 (.seq (.region [⟨true, ⟨(some 26), .build [(.int .i64 (.ofNat 0)), (.bool false), (.int .i64 (.ofNat 0))] [], [], none⟩⟩,
   ⟨true, ⟨(some 27), .bslice false .dyn 3 1 [(.int .i64 (.ofNat 0)), (.bool false), (.int .i64 (.ofNat 0))] [(0, 3, (.t 26))], [0], none⟩⟩,
   ⟨false, ⟨(some 4), .mov (.t 27), [1, 0, 1], none⟩⟩] [] 234881088)
 (.seq (.region [⟨true, ⟨(some 28), .mkmap .dyn, [], none⟩⟩,
   ⟨true, ⟨(some 29), .build [(.int .i64 (.ofNat 0)), (.bool false), (.int .i64 (.ofNat 0))] [], [], none⟩⟩,
   ⟨false, ⟨none, .mupd true [.i, .b, .i] (.t 28) (.t 29) (.c (.int .i64 (.ofNat 0))), [0, 1], none⟩⟩,
   ⟨true, ⟨(some 30), .mov (.t 28), [0, 1, 2], none⟩⟩,
   ⟨true, ⟨(some 8), .mov (.t 30), [3, 0, 1, 2, 3], none⟩⟩] [] 1879048192)
 (.seq (.seq (.region [⟨true, ⟨(some 9), .mov (.c (.int .i64 (.ofNat 0))), [], none⟩⟩] [] 0)
 (.block 0 (.loop (.seq (.seq (.region [⟨true, ⟨(some 31), .mov (.t 9), [], none⟩⟩,
   ⟨true, ⟨(some 32), .mov (.t 4), [], none⟩⟩,
   ⟨true, ⟨(some 33), .len 1 (.t 32), [1], none⟩⟩,
   ⟨true, ⟨(some 34), .bin .lss (.t 31) (.t 33), [0, 2], none⟩⟩] [] 15032385536)
 (.cond (.t 34)
  .skip
  (.exit 0)))
 (.seq (.block 1 (.seq (.region [⟨true, ⟨(some 38), .load (some 5) (.t 2), [], none⟩⟩,
   ⟨true, ⟨(some 39), .mov (.t 4), [], none⟩⟩,
   ⟨true, ⟨(some 40), .mov (.t 9), [], none⟩⟩,
   ⟨true, ⟨(some 41), .iaddr none 3 (.t 39) (.t 40), [1, 2], none⟩⟩,
   ⟨true, ⟨(some 42), .load (some 3) (.t 41), [3], none⟩⟩,
   ⟨true, ⟨(some 43), .mov (.t 1), [], none⟩⟩,
   ⟨true, ⟨(some 44), .call .heap (.f 165) [(.t 38), (.t 42), (.t 43)], [0, 4, 5], none⟩⟩,
   ⟨true, ⟨(some 37), .mov (.t 44), [6], none⟩⟩,
   ⟨true, ⟨(some 45), .extract 0 (.t 37), [7], none⟩⟩,
   ⟨true, ⟨(some 46), .extract 1 (.t 37), [7], none⟩⟩,
   ⟨true, ⟨(some 10), .mov (.t 45), [8, 6, 0, 1, 2, 3, 4, 5, 6, 7, 8], none⟩⟩,
   ⟨true, ⟨(some 11), .mov (.t 46), [9, 10, 0, 1, 2, 3, 4, 5, 6, 7, 8, 9, 10], none⟩⟩] [] 140617229271040)
 (.seq (.region [⟨true, ⟨(some 47), .mov (.t 10), [], none⟩⟩,
   ⟨true, ⟨(some 48), .len 1 (.t 47), [0], none⟩⟩,
   ⟨true, ⟨(some 49), .mov (.c (.int .i64 (.ofNat 0))), [], none⟩⟩] [] 1024)
 (.block 2 (.loop (.seq (.region [⟨true, ⟨(some 50), .bin .lss (.t 49) (.t 48), [], none⟩⟩] [] 0)
 (.seq (.cond (.t 50)
  .skip
  (.exit 2))
 (.seq (.block 3 (.seq (.region [⟨true, ⟨(some 51), .mov (.t 49), [], none⟩⟩,
   ⟨true, ⟨(some 52), .iaddr none 4 (.t 47) (.t 49), [], none⟩⟩,
   ⟨true, ⟨(some 53), .load (some 4) (.t 52), [1], none⟩⟩,
   ⟨true, ⟨(some 13), .alloc .dyn (.agg [(.int .i64 (.ofNat 0)), (.int .i64 (.ofNat 0)), (.int .i64 (.ofNat 0)), (.int .i64 (.ofNat 0))]), [], none⟩⟩,
   ⟨true, ⟨(some 12), .mov (.t 51), [0, 0, 1, 2, 3], none⟩⟩,
   ⟨false, ⟨none, .store 4 (.t 13) (.t 53), [3, 2, 4, 0, 1, 2, 3, 4], none⟩⟩] [] 16888498602639360)
 (.seq (.region [⟨true, ⟨(some 55), .mov (.t 8), [], none⟩⟩,
   ⟨true, ⟨(some 56), .mov (.t 11), [], none⟩⟩,
   ⟨true, ⟨(some 57), .mov (.t 12), [], none⟩⟩,
   ⟨true, ⟨(some 58), .iaddr none 3 (.t 56) (.t 57), [1, 2], none⟩⟩,
   ⟨true, ⟨(some 59), .load (some 3) (.t 58), [3], none⟩⟩,
   ⟨true, ⟨(some 60), .lookup true [.i, .b, .i] (.int .i64 (.ofNat 0)) true (.t 55) (.t 59), [0, 4], none⟩⟩,
   ⟨true, ⟨(some 54), .mov (.t 60), [5], none⟩⟩,
   ⟨true, ⟨(some 61), .extract 0 (.t 54), [6], none⟩⟩,
   ⟨true, ⟨(some 62), .extract 1 (.t 54), [6], none⟩⟩,
   ⟨true, ⟨(some 14), .mov (.t 61), [7, 0, 1, 2, 3, 4, 5, 6, 7], none⟩⟩,
   ⟨true, ⟨(some 15), .mov (.t 62), [8, 9, 0, 1, 2, 3, 4, 5, 6, 7, 8, 9], none⟩⟩] [] 9205357638345293824)
 (.seq (.seq (.region [⟨true, ⟨(some 63), .mov (.t 15), [], none⟩⟩,
   ⟨true, ⟨(some 64), .un .not (.t 63), [0], none⟩⟩] [] 9223372036854808576)
 (.cond (.t 64)
  (.seq (.region [⟨true, ⟨(some 65), .mov (.t 4), [], none⟩⟩,
    ⟨true, ⟨(some 66), .len 1 (.t 65), [0], none⟩⟩,
    ⟨false, ⟨(some 14), .mov (.t 66), [1, 0, 1], none⟩⟩] [] 129127208515966861312)
  (.region [⟨true, ⟨(some 67), .mov (.t 8), [], none⟩⟩,
    ⟨true, ⟨(some 68), .mov (.t 11), [], none⟩⟩,
    ⟨true, ⟨(some 69), .mov (.t 12), [], none⟩⟩,
    ⟨true, ⟨(some 70), .iaddr none 3 (.t 68) (.t 69), [1, 2], none⟩⟩,
    ⟨true, ⟨(some 71), .load (some 3) (.t 70), [3], none⟩⟩,
    ⟨true, ⟨(some 72), .mov (.t 14), [], none⟩⟩,
    ⟨true, ⟨(some 73), .mov (.t 4), [], none⟩⟩,
    ⟨true, ⟨(some 74), .mov (.t 11), [], none⟩⟩,
    ⟨true, ⟨(some 75), .mov (.t 12), [], none⟩⟩,
    ⟨true, ⟨(some 76), .iaddr none 3 (.t 74) (.t 75), [7, 8], none⟩⟩,
    ⟨true, ⟨(some 77), .load (some 3) (.t 76), [9], none⟩⟩,
    ⟨true, ⟨(some 78), .bslice false .dyn 3 1 [(.int .i64 (.ofNat 0)), (.bool false), (.int .i64 (.ofNat 0))] [(0, 3, (.t 77))], [10], none⟩⟩,
    ⟨true, ⟨(some 79), .append .dyn 3 24 (.t 73) (.t 78), [6, 11], none⟩⟩,
    ⟨true, ⟨(some 80), .ment true [.i, .b, .i] (.int .i64 (.ofNat 0)) (.t 67) (.t 71), [0, 4, 12, 10, 12], none⟩⟩,
    ⟨true, ⟨(some 81), .extract 1 (.t 80), [13], none⟩⟩,
    ⟨false, ⟨none, .estore (.t 67) (.t 81) (.t 72), [0, 14, 5, 13, 0, 1, 2, 3, 4, 5, 10, 12, 13], none⟩⟩,
    ⟨false, ⟨(some 4), .mov (.t 79), [12, 15, 0, 1, 2, 3, 4, 5, 6, 7, 8, 9, 10, 11, 12, 13, 14, 15], none⟩⟩] [(4, 12)] 4835555704505927022415872))
  .skip))
 (.seq (.seq (.region [⟨true, ⟨(some 82), .mov (.t 14), [], none⟩⟩,
   ⟨true, ⟨(some 83), .bin .geq (.t 82) (.c (.int .i64 (.ofNat 4096))), [0], none⟩⟩] [] 4835721725202590408380416)
 (.cond (.t 83)
  (.seq (.region [⟨false, ⟨(some 4), .mov (.c .nilsl), [], none⟩⟩,
    ⟨false, ⟨(some 5), .mov (.c .nilsl), [0, 0], none⟩⟩,
    ⟨true, ⟨(some 6), .mov (.c (.int .i64 (.ofNat 3))), [1, 0, 1], none⟩⟩] [] 9671406557902195816164102)
  .ret)
  .skip))
 (.seq (.region [⟨true, ⟨(some 84), .mov (.t 9), [], none⟩⟩,
   ⟨true, ⟨(some 85), .mov (.t 14), [], none⟩⟩,
   ⟨true, ⟨(some 86), .faddr 0 (.t 13), [0], none⟩⟩,
   ⟨false, ⟨none, .store 1 (.t 86) (.t 84), [2, 0, 0], none⟩⟩,
   ⟨true, ⟨(some 87), .faddr 3 (.t 13), [0, 1, 2, 3], none⟩⟩,
   ⟨false, ⟨none, .store 1 (.t 87) (.t 85), [4, 1, 3, 0, 1, 2, 3], none⟩⟩] [] 299813603264428035327148096)
 (.region [⟨true, ⟨(some 88), .mov (.t 5), [], none⟩⟩,
   ⟨true, ⟨(some 89), .load (some 4) (.t 13), [], none⟩⟩,
   ⟨true, ⟨(some 90), .bslice false .dyn 4 1 [(.int .i64 (.ofNat 0)), (.int .i64 (.ofNat 0)), (.int .i64 (.ofNat 0)), (.int .i64 (.ofNat 0))] [(0, 4, (.t 89))], [1], none⟩⟩,
   ⟨true, ⟨(some 91), .append .dyn 4 32 (.t 88) (.t 90), [0, 2], none⟩⟩,
   ⟨false, ⟨(some 5), .mov (.t 91), [3, 3, 0, 1, 2, 3], none⟩⟩] [] 4642275147320176030871724032)))))))
 (.region [⟨true, ⟨(some 92), .bin .add (.t 49) (.c (.int .i64 (.ofNat 1))), [], none⟩⟩,
   ⟨false, ⟨(some 49), .mov (.t 92), [0], none⟩⟩] [] 4951760157141521099596496896)))))))))
 (.region [⟨true, ⟨(some 35), .mov (.t 9), [], none⟩⟩,
   ⟨true, ⟨(some 36), .bin .add (.t 35) (.c (.int .i64 (.ofNat 1))), [0], none⟩⟩,
   ⟨false, ⟨(some 9), .mov (.t 36), [1, 0, 1], none⟩⟩] [] 985265497704448))))))
 (.seq (.region [⟨true, ⟨(some 93), .mov (.t 4), [], none⟩⟩,
   ⟨true, ⟨(some 94), .mov (.t 5), [], none⟩⟩,
   ⟨false, ⟨(some 4), .mov (.t 93), [0, 0], none⟩⟩,
   ⟨false, ⟨(some 5), .mov (.t 94), [1, 2, 0, 1, 2], none⟩⟩,
   ⟨true, ⟨(some 6), .mov (.c (.int .i64 (.ofNat 0))), [3, 0, 1, 2, 3], none⟩⟩] [] 29710560942849126597578982150)
 .ret)))))))⟩
def f112 : FFn := ⟨77, [.tmp 4],
 (.seq (.region [⟨true, ⟨(some 4), .mov (.c (.bool false)), [], none⟩⟩] [] 16)
 (.seq (.seq (.region [⟨true, ⟨(some 8), .mov (.t 0), [], none⟩⟩,
   ⟨true, ⟨(some 9), .nilchk (.t 8), [0], none⟩⟩,
   ⟨true, ⟨(some 10), .faddr 4 (.t 9), [1], none⟩⟩,
   ⟨true, ⟨(some 11), .load none (.t 10), [2], none⟩⟩,
   ⟨true, ⟨(some 12), .mov (.t 1), [], none⟩⟩,
   ⟨true, ⟨(some 13), .iaddr none 1 (.t 11) (.t 12), [3, 4], none⟩⟩,
   ⟨true, ⟨(some 14), .load none (.t 13), [5], none⟩⟩] [] 16128)
 (.block 0 (.seq (.region [⟨true, ⟨(some 16), .bin .eql (.t 14) (.c (.int .i64 (.ofNat 1))), [], none⟩⟩,
   ⟨true, ⟨(some 15), .mov (.t 16), [0], none⟩⟩] [] 65536)
 (.cond (.t 15)
  (.seq (.region [⟨true, ⟨(some 4), .mov (.c (.bool false)), [], none⟩⟩] [] 49155)
  .ret)
  (.seq (.region [⟨true, ⟨(some 18), .bin .eql (.t 14) (.c (.int .i64 (.ofNat 2))), [], none⟩⟩,
    ⟨true, ⟨(some 17), .mov (.t 18), [0], none⟩⟩] [] 311296)
  (.cond (.t 17)
   (.seq (.region [⟨true, ⟨(some 4), .mov (.c (.bool true)), [], none⟩⟩] [] 131075)
   .ret)
   .skip))))))
 (.seq (.region [⟨true, ⟨(some 19), .mov (.t 0), [], none⟩⟩,
   ⟨true, ⟨(some 20), .nilchk (.t 19), [0], none⟩⟩,
   ⟨true, ⟨(some 21), .faddr 4 (.t 20), [1], none⟩⟩,
   ⟨true, ⟨(some 22), .load none (.t 21), [2], none⟩⟩,
   ⟨true, ⟨(some 23), .mov (.t 1), [], none⟩⟩,
   ⟨true, ⟨(some 24), .iaddr none 1 (.t 22) (.t 23), [3, 4, 0, 1, 2, 3, 4], none⟩⟩,
   ⟨false, ⟨none, .store 1 (.t 24) (.c (.int .i64 (.ofNat 1))), [5, 0, 1, 2, 3, 4], none⟩⟩] [] 33161232)
 (.seq (.seq (.region [⟨true, ⟨(some 25), .mov (.t 0), [], none⟩⟩,
   ⟨true, ⟨(some 26), .nilchk (.t 25), [0], none⟩⟩,
   ⟨true, ⟨(some 27), .faddr 2 (.t 26), [1], none⟩⟩,
   ⟨true, ⟨(some 28), .load none (.t 27), [2], none⟩⟩,
   ⟨true, ⟨(some 29), .mov (.t 1), [], none⟩⟩,
   ⟨true, ⟨(some 30), .iaddr none 1 (.t 28) (.t 29), [3, 4], none⟩⟩,
   ⟨true, ⟨(some 31), .load none (.t 30), [5], none⟩⟩,
   ⟨true, ⟨(some 32), .len 1 (.t 31), [6], none⟩⟩,
   ⟨true, ⟨(some 33), .mov (.c (.int .i64 (.ofNat 0))), [], none⟩⟩] [] 2113929216)
 (.block 1 (.loop (.seq (.region [⟨true, ⟨(some 34), .bin .lss (.t 33) (.t 32), [], none⟩⟩] [] 0)
 (.seq (.cond (.t 34)
  .skip
  (.exit 1))
 (.seq (.block 2 (.seq (.region [⟨true, ⟨(some 35), .iaddr none 4 (.t 31) (.t 33), [], none⟩⟩,
   ⟨true, ⟨(some 36), .load (some 4) (.t 35), [0], none⟩⟩,
   ⟨true, ⟨(some 6), .alloc .dyn (.agg [(.int .i64 (.ofNat 0)), (.int .i64 (.ofNat 0)), (.int .i64 (.ofNat 0)), (.int .i64 (.ofNat 0))]), [], none⟩⟩,
   ⟨false, ⟨none, .store 4 (.t 6) (.t 36), [2, 1, 0, 1, 2], none⟩⟩] [] 120259084288)
 (.seq (.seq (.region [⟨true, ⟨(some 37), .mov (.t 0), [], none⟩⟩,
   ⟨true, ⟨(some 38), .faddr 3 (.t 6), [], none⟩⟩,
   ⟨true, ⟨(some 39), .load none (.t 38), [1], none⟩⟩,
   ⟨true, ⟨(some 40), .call .heap (.f 112) [(.t 37), (.t 39)], [0, 2], none⟩⟩,
   ⟨true, ⟨(some 41), .un .not (.t 40), [3], none⟩⟩] [] 2061584302080)
 (.cond (.t 41)
  (.seq (.region [⟨true, ⟨(some 4), .mov (.c (.bool false)), [], none⟩⟩] [] 2214055641155)
  .ret)
  .skip))
 (.seq (.region [⟨true, ⟨(some 42), .mov (.t 0), [], none⟩⟩,
   ⟨true, ⟨(some 43), .nilchk (.t 42), [0], none⟩⟩,
   ⟨true, ⟨(some 44), .faddr 3 (.t 43), [1], none⟩⟩,
   ⟨true, ⟨(some 45), .load none (.t 44), [2], none⟩⟩,
   ⟨true, ⟨(some 46), .faddr 3 (.t 6), [], none⟩⟩,
   ⟨true, ⟨(some 47), .load none (.t 46), [4], none⟩⟩,
   ⟨true, ⟨(some 48), .iaddr none 1 (.t 45) (.t 47), [3, 5], none⟩⟩,
   ⟨true, ⟨(some 49), .load none (.t 48), [6], none⟩⟩,
   ⟨true, ⟨(some 7), .mov (.t 49), [7, 0, 1, 2, 3, 4, 5, 6, 7], none⟩⟩] [] 1123700883587088)
 (.seq (.seq (.region [⟨true, ⟨(some 50), .faddr 2 (.t 6), [], none⟩⟩,
   ⟨true, ⟨(some 51), .load none (.t 50), [0], none⟩⟩,
   ⟨true, ⟨(some 52), .bin .neq (.t 51) (.c (.int .i64 (.ofNat 2))), [1], none⟩⟩] [] 3377699720527936)
 (.cond (.t 52)
  (.region [⟨true, ⟨(some 53), .mov (.t 7), [], none⟩⟩,
    ⟨true, ⟨(some 54), .bin .add (.t 53) (.c (.int .i64 (.ofNat 1))), [0], none⟩⟩,
    ⟨false, ⟨(some 7), .mov (.t 54), [1, 0, 1], none⟩⟩] [] 31525197391593472)
  .skip))
 (.region [⟨true, ⟨(some 55), .mov (.t 0), [], none⟩⟩,
   ⟨true, ⟨(some 56), .nilchk (.t 55), [0], none⟩⟩,
   ⟨true, ⟨(some 57), .faddr 3 (.t 56), [1], none⟩⟩,
   ⟨true, ⟨(some 58), .load none (.t 57), [2], none⟩⟩,
   ⟨true, ⟨(some 59), .mov (.t 1), [], none⟩⟩,
   ⟨true, ⟨(some 60), .mov (.t 0), [], none⟩⟩,
   ⟨true, ⟨(some 61), .nilchk (.t 60), [5], none⟩⟩,
   ⟨true, ⟨(some 62), .faddr 3 (.t 61), [6], none⟩⟩,
   ⟨true, ⟨(some 63), .load none (.t 62), [7], none⟩⟩,
   ⟨true, ⟨(some 64), .mov (.t 1), [], none⟩⟩,
   ⟨true, ⟨(some 65), .iaddr none 1 (.t 63) (.t 64), [8, 9], none⟩⟩,
   ⟨true, ⟨(some 66), .load none (.t 65), [10], none⟩⟩,
   ⟨true, ⟨(some 67), .mov (.t 7), [], none⟩⟩,
   ⟨true, ⟨(some 68), .maxmin false [(.t 66), (.t 67)], [11, 12], none⟩⟩,
   ⟨true, ⟨(some 69), .iaddr none 1 (.t 58) (.t 59), [3, 4, 0, 1, 2, 3, 4, 5, 6, 7, 8, 9, 10, 11, 12, 13], none⟩⟩,
   ⟨false, ⟨none, .store 1 (.t 69) (.t 68), [14, 13, 0, 1, 2, 3, 4, 5, 6, 7, 8, 9, 10, 11, 12, 13], none⟩⟩] [] 1180560095520019710080))))))
 (.region [⟨true, ⟨(some 70), .bin .add (.t 33) (.c (.int .i64 (.ofNat 1))), [], none⟩⟩,
   ⟨false, ⟨(some 33), .mov (.t 70), [0], none⟩⟩] [] 1180591620717411303424)))))))
 (.seq (.region [⟨true, ⟨(some 71), .mov (.t 0), [], none⟩⟩,
   ⟨true, ⟨(some 72), .nilchk (.t 71), [0], none⟩⟩,
   ⟨true, ⟨(some 73), .faddr 4 (.t 72), [1], none⟩⟩,
   ⟨true, ⟨(some 74), .load none (.t 73), [2], none⟩⟩,
   ⟨true, ⟨(some 75), .mov (.t 1), [], none⟩⟩,
   ⟨true, ⟨(some 76), .iaddr none 1 (.t 74) (.t 75), [3, 4, 0, 1, 2, 3, 4], none⟩⟩,
   ⟨false, ⟨none, .store 1 (.t 76) (.c (.int .i64 (.ofNat 2))), [5, 0, 1, 2, 3, 4], none⟩⟩] [] 148754544210408856616963)
 (.seq (.region [⟨true, ⟨(some 4), .mov (.c (.bool true)), [], none⟩⟩] [] 0)
 .ret))))))⟩
def f113 : FFn := ⟨5, [.tmp 2],
 (.seq (.region [⟨true, ⟨(some 1), .box .dyn (.t 0), [], none⟩⟩,
   ⟨true, ⟨(some 2), .mov (.c (.bool false)), [], none⟩⟩] [] 5)
 (.seq (.region [⟨true, ⟨(some 3), .faddr 1 (.t 1), [], none⟩⟩,
   ⟨true, ⟨(some 4), .load none (.t 3), [0], none⟩⟩,
   ⟨true, ⟨(some 2), .mov (.t 4), [1, 0, 1], none⟩⟩] [] 26)
 .ret))⟩
def f114 : FFn := ⟨6, [.tmp 2],
 (.seq (.region [⟨true, ⟨(some 1), .box .dyn (.t 0), [], none⟩⟩,
   ⟨true, ⟨(some 2), .mov (.c (.bool false)), [], none⟩⟩] [] 5)
 (.seq (.region [⟨true, ⟨(some 3), .faddr 1 (.t 1), [], none⟩⟩,
   ⟨true, ⟨(some 4), .load none (.t 3), [0], none⟩⟩,
   ⟨true, ⟨(some 5), .un .not (.t 4), [1], none⟩⟩,
   ⟨true, ⟨(some 2), .mov (.t 5), [2, 0, 1, 2], none⟩⟩] [] 58)
 .ret))⟩
def f115 : FFn := ⟨5, [.tmp 2],
 (.seq (.region [⟨true, ⟨(some 1), .box .dyn (.t 0), [], none⟩⟩,
   ⟨true, ⟨(some 2), .mov (.c (.bool false)), [], none⟩⟩] [] 5)
 (.seq (.region [⟨true, ⟨(some 3), .faddr 2 (.t 1), [], none⟩⟩,
   ⟨true, ⟨(some 4), .load none (.t 3), [0], none⟩⟩,
   ⟨true, ⟨(some 2), .mov (.t 4), [1, 0, 1], none⟩⟩] [] 26)
 .ret))⟩
def f116 : FFn := ⟨6, [.tmp 2],
 (.seq (.region [⟨true, ⟨(some 1), .box .dyn (.t 0), [], none⟩⟩,
   ⟨true, ⟨(some 2), .mov (.c (.bool false)), [], none⟩⟩] [] 5)
 (.seq (.region [⟨true, ⟨(some 3), .faddr 2 (.t 1), [], none⟩⟩,
   ⟨true, ⟨(some 4), .load none (.t 3), [0], none⟩⟩,
   ⟨true, ⟨(some 5), .un .not (.t 4), [1], none⟩⟩,
   ⟨true, ⟨(some 2), .mov (.t 5), [2, 0, 1, 2], none⟩⟩] [] 58)
 .ret))⟩
def f117 : FFn := ⟨5, [.tmp 2],
 (.seq (.region [⟨true, ⟨(some 1), .box .dyn (.t 0), [], none⟩⟩,
   ⟨true, ⟨(some 2), .mov (.c (.bool false)), [], none⟩⟩] [] 5)
 (.seq (.region [⟨true, ⟨(some 3), .faddr 3 (.t 1), [], none⟩⟩,
   ⟨true, ⟨(some 4), .load none (.t 3), [0], none⟩⟩,
   ⟨true, ⟨(some 2), .mov (.t 4), [1, 0, 1], none⟩⟩] [] 26)
 .ret))⟩
def f118 : FFn := ⟨6, [.tmp 2],
 (.seq (.region [⟨true, ⟨(some 1), .box .dyn (.t 0), [], none⟩⟩,
   ⟨true, ⟨(some 2), .mov (.c (.bool false)), [], none⟩⟩] [] 5)
 (.seq (.region [⟨true, ⟨(some 3), .faddr 4 (.t 1), [], none⟩⟩,
   ⟨true, ⟨(some 4), .load none (.t 3), [0], none⟩⟩,
   ⟨true, ⟨(some 5), .bin .neq (.t 4) (.c (.int .i64 (.ofNat 0))), [1], none⟩⟩,
   ⟨true, ⟨(some 2), .mov (.t 5), [2, 0, 1, 2], none⟩⟩] [] 58)
 .ret))⟩
def f119 : FFn := ⟨24, [.tmp 4],
 (.seq (.region [⟨true, ⟨(some 4), .mov (.c .nilsl), [], none⟩⟩] [] 16)
 (.seq (.region [⟨true, ⟨(some 5), .mov (.c .nilsl), [], none⟩⟩] [] 0)
 (.seq (.seq (.region [⟨true, ⟨(some 8), .mov (.t 0), [], none⟩⟩,
   ⟨true, ⟨(some 9), .len 1 (.t 8), [0], none⟩⟩,
   ⟨true, ⟨(some 10), .mov (.c (.int .i64 (.ofNat 0))), [], none⟩⟩] [] 1)
 (.block 0 (.loop (.seq (.region [⟨true, ⟨(some 11), .bin .lss (.t 10) (.t 9), [], none⟩⟩] [] 0)
 (.seq (.cond (.t 11)
  .skip
  (.exit 0))
 (.seq (.block 1 (.seq (.region [⟨true, ⟨(some 12), .mov (.t 10), [], none⟩⟩,
   ⟨true, ⟨(some 13), .iaddr none 5 (.t 8) (.t 10), [], none⟩⟩,
   ⟨true, ⟨(some 14), .load (some 5) (.t 13), [1], none⟩⟩,
   ⟨true, ⟨(some 7), .alloc .dyn (.agg [(.str []), (.bool false), (.bool false), (.bool false), (.int .i64 (.ofNat 0))]), [], none⟩⟩,
   ⟨true, ⟨(some 6), .mov (.t 12), [0, 0, 1, 2, 3], none⟩⟩,
   ⟨false, ⟨none, .store 5 (.t 7) (.t 14), [3, 2, 4, 0, 1, 2, 3, 4], none⟩⟩] [] 30720)
 (.seq (.region [⟨true, ⟨(some 15), .mov (.t 1), [], none⟩⟩,
   ⟨true, ⟨(some 16), .load (some 5) (.t 7), [], none⟩⟩,
   ⟨true, ⟨(some 17), .call .heap (.t 15) [(.t 16)], [0, 1], none⟩⟩] [] 98432)
 (.cond (.t 17)
  (.region [⟨true, ⟨(some 18), .mov (.t 5), [], none⟩⟩,
    ⟨true, ⟨(some 19), .mov (.t 6), [], none⟩⟩,
    ⟨true, ⟨(some 20), .bslice false .dyn 1 1 [(.int .i64 (.ofNat 0))] [(0, 1, (.t 19))], [1], none⟩⟩,
    ⟨true, ⟨(some 21), .append .dyn 1 8 (.t 18) (.t 20), [0, 2], none⟩⟩,
    ⟨false, ⟨(some 5), .mov (.t 21), [3, 3, 0, 1, 2, 3], none⟩⟩] [] 4063296)
  .skip))))
 (.region [⟨true, ⟨(some 22), .bin .add (.t 10) (.c (.int .i64 (.ofNat 1))), [], none⟩⟩,
   ⟨false, ⟨(some 10), .mov (.t 22), [0], none⟩⟩] [] 4325440)))))))
 (.seq (.region [⟨true, ⟨(some 23), .mov (.t 5), [], none⟩⟩,
   ⟨true, ⟨(some 4), .mov (.t 23), [0, 0], none⟩⟩] [] 8390434)
 .ret))))⟩
def f132 : FFn := ⟨35, [.tmp 4],
 (.seq (.region [⟨true, ⟨(some 4), .mov (.c (.int .i64 (.ofNat 0))), [], none⟩⟩] [] 16)
 (.seq (.seq (.region [⟨true, ⟨(some 7), .mov (.t 0), [], none⟩⟩,
   ⟨true, ⟨(some 8), .len 1 (.t 7), [0], none⟩⟩,
   ⟨true, ⟨(some 9), .mov (.c (.int .i64 (.ofNat 0))), [], none⟩⟩] [] 0)
 (.block 0 (.loop (.seq (.region [⟨true, ⟨(some 10), .bin .lss (.t 9) (.t 8), [], none⟩⟩] [] 0)
 (.seq (.cond (.t 10)
  .skip
  (.exit 0))
 (.seq (.block 1 (.seq (.region [⟨true, ⟨(some 11), .mov (.t 9), [], none⟩⟩,
   ⟨true, ⟨(some 12), .iaddr none 1 (.t 7) (.t 9), [], none⟩⟩,
   ⟨true, ⟨(some 13), .load none (.t 12), [1], none⟩⟩,
   ⟨true, ⟨(some 5), .mov (.t 11), [0, 0, 1, 2], none⟩⟩,
   ⟨true, ⟨(some 6), .mov (.t 13), [2, 3, 0, 1, 2, 3], none⟩⟩] [] 15360)
 (.block 2 (.seq (.region [⟨true, ⟨(some 15), .mov (.t 6), [], none⟩⟩,
   ⟨true, ⟨(some 16), .bin .lss (.t 15) (.c (.int .i64 (.ofNat 0))), [0], none⟩⟩,
   ⟨true, ⟨(some 17), .mov (.t 16), [1], none⟩⟩,
   ⟨false, ⟨(some 18), .mov (.t 6), [2], (some (17, false))⟩⟩,
   ⟨false, ⟨(some 19), .mov (.t 1), [2], (some (17, false))⟩⟩,
   ⟨false, ⟨(some 20), .bin .geq (.t 18) (.t 19), [3, 4, 2], (some (17, false))⟩⟩,
   ⟨true, ⟨(some 21), .pick (.t 17) (.c (.bool true)) (.t 20), [2, 5], none⟩⟩,
   ⟨true, ⟨(some 14), .mov (.t 21), [6, 2], none⟩⟩] [] 2326528)
 (.cond (.t 14)
  (.seq (.region [⟨true, ⟨(some 4), .mov (.c (.int .i64 (.ofNat 2))), [], none⟩⟩] [] 8524678115)
  .ret)
  (.seq (.region [⟨true, ⟨(some 23), .mov (.t 5), [], none⟩⟩,
    ⟨true, ⟨(some 24), .bin .gtr (.t 23) (.c (.int .i64 (.ofNat 0))), [0], none⟩⟩,
    ⟨true, ⟨(some 25), .mov (.t 24), [1], none⟩⟩,
    ⟨false, ⟨(some 26), .mov (.t 6), [2], (some (25, true))⟩⟩,
    ⟨false, ⟨(some 27), .mov (.t 0), [2], (some (25, true))⟩⟩,
    ⟨false, ⟨(some 28), .mov (.t 5), [2], (some (25, true))⟩⟩,
    ⟨false, ⟨(some 29), .bin .sub (.t 28) (.c (.int .i64 (.ofNat 1))), [5, 2], (some (25, true))⟩⟩,
    ⟨false, ⟨(some 30), .iaddr none 1 (.t 27) (.t 29), [4, 6, 2], (some (25, true))⟩⟩,
    ⟨false, ⟨(some 31), .load none (.t 30), [7, 2], (some (25, true))⟩⟩,
    ⟨false, ⟨(some 32), .bin .leq (.t 26) (.t 31), [3, 8, 2], (some (25, true))⟩⟩,
    ⟨true, ⟨(some 33), .pick (.t 25) (.t 32) (.c (.bool false)), [2, 9], none⟩⟩,
    ⟨true, ⟨(some 22), .mov (.t 33), [10, 2], none⟩⟩] [] 8648671328)
  (.cond (.t 22)
   (.seq (.region [⟨true, ⟨(some 4), .mov (.c (.int .i64 (.ofNat 5))), [], none⟩⟩] [] 8528855939)
   .ret)
   .skip)))))))
 (.region [⟨true, ⟨(some 34), .bin .add (.t 9) (.c (.int .i64 (.ofNat 1))), [], none⟩⟩,
   ⟨false, ⟨(some 9), .mov (.t 34), [0], none⟩⟩] [] 17184063504)))))))
 (.seq (.region [⟨true, ⟨(some 4), .mov (.c (.int .i64 (.ofNat 0))), [], none⟩⟩] [] 8524661635)
 .ret)))⟩
def f133 : FFn := ⟨72, [.tmp 2],
 (.seq (.region [⟨true, ⟨(some 1), .box .dyn (.t 0), [], none⟩⟩,
   ⟨true, ⟨(some 2), .mov (.c (.int .i64 (.ofNat 0))), [], none⟩⟩] [] 5)
 (.seq (.seq (.region [⟨true, ⟨(some 6), .faddr 3 (.t 1), [], none⟩⟩,
   ⟨true, ⟨(some 7), .load none (.t 6), [0], none⟩⟩,
   ⟨true, ⟨(some 8), .len 1 (.t 7), [1], none⟩⟩,
   ⟨true, ⟨(some 9), .mov (.c (.int .i64 (.ofNat 0))), [], none⟩⟩] [] 64)
 (.block 0 (.loop (.seq (.region [⟨true, ⟨(some 10), .bin .lss (.t 9) (.t 8), [], none⟩⟩] [] 0)
 (.seq (.cond (.t 10)
  .skip
  (.exit 0))
 (.seq (.block 1 (.seq (.region [⟨true, ⟨(some 11), .mov (.t 9), [], none⟩⟩,
   ⟨true, ⟨(some 12), .iaddr none 3 (.t 7) (.t 9), [], none⟩⟩,
   ⟨true, ⟨(some 13), .load (some 3) (.t 12), [1], none⟩⟩,
   ⟨true, ⟨(some 4), .alloc .dyn (.agg [(.int .i64 (.ofNat 0)), (.int .i64 (.ofNat 0)), (.int .i64 (.ofNat 0))]), [], none⟩⟩,
   ⟨true, ⟨(some 3), .mov (.t 11), [0, 0, 1, 2, 3], none⟩⟩,
   ⟨false, ⟨none, .store 3 (.t 4) (.t 13), [3, 2, 4, 0, 1, 2, 3, 4], none⟩⟩] [] 15360)
 (.seq (.block 2 (.seq (.region [⟨true, ⟨(some 15), .faddr 0 (.t 4), [], none⟩⟩,
   ⟨true, ⟨(some 16), .load none (.t 15), [0], none⟩⟩,
   ⟨true, ⟨(some 17), .bin .lss (.t 16) (.c (.int .i64 (.ofNat 0))), [1], none⟩⟩,
   ⟨true, ⟨(some 18), .mov (.t 17), [2], none⟩⟩,
   ⟨false, ⟨(some 19), .faddr 0 (.t 4), [3], (some (18, false))⟩⟩,
   ⟨false, ⟨(some 20), .load none (.t 19), [4, 3], (some (18, false))⟩⟩,
   ⟨false, ⟨(some 21), .faddr 1 (.t 1), [3], (some (18, false))⟩⟩,
   ⟨false, ⟨(some 22), .load none (.t 21), [6, 3], (some (18, false))⟩⟩,
   ⟨false, ⟨(some 23), .bin .geq (.t 20) (.t 22), [5, 7, 3], (some (18, false))⟩⟩,
   ⟨true, ⟨(some 24), .pick (.t 18) (.c (.bool true)) (.t 23), [3, 8], none⟩⟩,
   ⟨true, ⟨(some 25), .mov (.t 24), [9, 3], none⟩⟩,
   ⟨false, ⟨(some 26), .faddr 2 (.t 4), [10], (some (25, false))⟩⟩,
   ⟨false, ⟨(some 27), .load none (.t 26), [11, 10], (some (25, false))⟩⟩,
   ⟨false, ⟨(some 28), .bin .lss (.t 27) (.c (.int .i64 (.ofNat 0))), [12, 10], (some (25, false))⟩⟩,
   ⟨true, ⟨(some 29), .pick (.t 25) (.c (.bool true)) (.t 28), [10, 13], none⟩⟩,
   ⟨true, ⟨(some 30), .mov (.t 29), [14, 10], none⟩⟩,
   ⟨false, ⟨(some 31), .faddr 2 (.t 4), [15], (some (30, false))⟩⟩,
   ⟨false, ⟨(some 32), .load none (.t 31), [16, 15], (some (30, false))⟩⟩,
   ⟨false, ⟨(some 33), .faddr 1 (.t 1), [15], (some (30, false))⟩⟩,
   ⟨false, ⟨(some 34), .load none (.t 33), [18, 15], (some (30, false))⟩⟩,
   ⟨false, ⟨(some 35), .bin .geq (.t 32) (.t 34), [17, 19, 15], (some (30, false))⟩⟩,
   ⟨true, ⟨(some 36), .pick (.t 30) (.c (.bool true)) (.t 35), [15, 20], none⟩⟩,
   ⟨true, ⟨(some 14), .mov (.t 36), [21, 15], none⟩⟩] [] 70380912640)
 (.cond (.t 14)
  (.seq (.region [⟨true, ⟨(some 2), .mov (.c (.int .i64 (.ofNat 2))), [], none⟩⟩] [] 1180303390408317617050)
  .ret)
  (.seq (.region [⟨true, ⟨(some 38), .faddr 0 (.t 1), [], none⟩⟩,
    ⟨true, ⟨(some 39), .load none (.t 38), [0], none⟩⟩,
    ⟨true, ⟨(some 40), .faddr 1 (.t 4), [], none⟩⟩,
    ⟨true, ⟨(some 41), .load none (.t 40), [2], none⟩⟩,
    ⟨true, ⟨(some 42), .call .heap (.f 169) [(.t 39), (.t 41)], [1, 3], none⟩⟩,
    ⟨true, ⟨(some 43), .un .not (.t 42), [4], none⟩⟩,
    ⟨true, ⟨(some 37), .mov (.t 43), [5, 4], none⟩⟩] [] 17317308153856)
  (.cond (.t 37)
   (.seq (.region [⟨true, ⟨(some 2), .mov (.c (.int .i64 (.ofNat 9))), [], none⟩⟩] [] 1180303390545756554138)
   .ret)
   .skip)))))
 (.seq (.seq (.region [⟨true, ⟨(some 44), .mov (.t 3), [], none⟩⟩,
   ⟨true, ⟨(some 45), .bin .eql (.t 44) (.c (.int .i64 (.ofNat 0))), [0], none⟩⟩] [] 17729624997892)
 (.cond (.t 45)
  (.exit 1)
  .skip))
 (.seq (.region [⟨true, ⟨(some 46), .faddr 3 (.t 1), [], none⟩⟩,
   ⟨true, ⟨(some 47), .load none (.t 46), [0], none⟩⟩,
   ⟨true, ⟨(some 48), .mov (.t 3), [], none⟩⟩,
   ⟨true, ⟨(some 49), .bin .sub (.t 48) (.c (.int .i64 (.ofNat 1))), [2], none⟩⟩,
   ⟨true, ⟨(some 50), .iaddr none 3 (.t 47) (.t 49), [1, 3], none⟩⟩,
   ⟨true, ⟨(some 51), .load (some 3) (.t 50), [4], none⟩⟩,
   ⟨true, ⟨(some 5), .alloc .dyn (.agg [(.int .i64 (.ofNat 0)), (.int .i64 (.ofNat 0)), (.int .i64 (.ofNat 0))]), [], none⟩⟩,
   ⟨false, ⟨none, .store 3 (.t 5) (.t 51), [6, 5, 0, 1, 2, 3, 4, 5, 6], none⟩⟩] [] 4468415255281672)
 (.seq (.region [⟨true, ⟨(some 52), .faddr 0 (.t 4), [], none⟩⟩,
   ⟨true, ⟨(some 53), .load none (.t 52), [0], none⟩⟩,
   ⟨true, ⟨(some 54), .faddr 0 (.t 5), [], none⟩⟩,
   ⟨true, ⟨(some 55), .load none (.t 54), [2], none⟩⟩,
   ⟨true, ⟨(some 56), .bin .lss (.t 53) (.t 55), [1, 3], none⟩⟩,
   ⟨true, ⟨(some 57), .mov (.t 56), [4], none⟩⟩,
   ⟨false, ⟨(some 58), .faddr 0 (.t 4), [5], (some (57, false))⟩⟩,
   ⟨false, ⟨(some 59), .load none (.t 58), [6, 5], (some (57, false))⟩⟩,
   ⟨false, ⟨(some 60), .faddr 0 (.t 5), [5], (some (57, false))⟩⟩,
   ⟨false, ⟨(some 61), .load none (.t 60), [8, 5], (some (57, false))⟩⟩,
   ⟨false, ⟨(some 62), .bin .eql (.t 59) (.t 61), [7, 9, 5], (some (57, false))⟩⟩,
   ⟨false, ⟨(some 63), .mov (.t 62), [10, 5, 5], (some (57, false))⟩⟩,
   ⟨false, ⟨(some 64), .faddr 1 (.t 4), [11], (some (63, true))⟩⟩,
   ⟨false, ⟨(some 65), .load none (.t 64), [12, 11], (some (63, true))⟩⟩,
   ⟨false, ⟨(some 66), .faddr 1 (.t 5), [11], (some (63, true))⟩⟩,
   ⟨false, ⟨(some 67), .load none (.t 66), [14, 11], (some (63, true))⟩⟩,
   ⟨false, ⟨(some 68), .bin .leq (.t 65) (.t 67), [13, 15, 11], (some (63, true))⟩⟩,
   ⟨false, ⟨(some 69), .pick (.t 63) (.t 68) (.c (.bool false)), [11, 16, 5], (some (57, false))⟩⟩,
   ⟨true, ⟨(some 70), .pick (.t 57) (.c (.bool true)) (.t 69), [5, 17], none⟩⟩] [] 283726776524341296)
 (.cond (.t 70)
  (.seq (.region [⟨true, ⟨(some 2), .mov (.c (.int .i64 (.ofNat 5))), [], none⟩⟩] [] 2360895011125728904066)
  .ret)
  .skip)))))))
 (.region [⟨true, ⟨(some 71), .bin .add (.t 9) (.c (.int .i64 (.ofNat 1))), [], none⟩⟩,
   ⟨false, ⟨(some 9), .mov (.t 71), [0], none⟩⟩] [] 3541774862152233910276)))))))
 (.seq (.region [⟨true, ⟨(some 2), .mov (.c (.int .i64 (.ofNat 0))), [], none⟩⟩] [] 1180303390408317600642)
 .ret)))⟩
def f144 : FFn := ⟨8, [.tmp 2],
 (.seq (.region [⟨true, ⟨(some 2), .mov (.c (.int .i64 (.ofNat 0))), [], none⟩⟩] [] 4)
 (.seq (.cond (.c (.bool false))
  (.seq (.region [⟨true, ⟨(some 3), .mov (.t 0), [], none⟩⟩,
    ⟨true, ⟨(some 4), .conv .u32 (.t 3), [0], none⟩⟩,
    ⟨true, ⟨(some 5), .call .heap (.f 191) [(.t 4)], [1], none⟩⟩,
    ⟨true, ⟨(some 2), .mov (.t 5), [2, 2, 0, 1, 2], none⟩⟩] [] 57)
  .ret)
  .skip)
 (.seq (.region [⟨true, ⟨(some 6), .mov (.t 0), [], none⟩⟩,
   ⟨true, ⟨(some 7), .call .heap (.f 192) [(.t 6)], [0], none⟩⟩,
   ⟨false, ⟨(some 2), .mov (.t 7), [1, 1, 0, 1], none⟩⟩] [] 193)
 .ret)))⟩
def f156 : FFn := ⟨5, [.tmp 2],
 (.seq (.region [⟨true, ⟨(some 2), .mov (.c (.str [])), [], none⟩⟩] [] 4)
 (.seq (.region [⟨true, ⟨(some 3), .mov (.t 0), [], none⟩⟩,
   ⟨true, ⟨(some 4), .call .heap (.f 205) [(.t 3), (.c (.int .i64 (.ofNat 10)))], [0], none⟩⟩,
   ⟨true, ⟨(some 2), .mov (.t 4), [1, 1, 0, 1], none⟩⟩] [] 25)
 .ret))⟩
def f157 : FFn := ⟨134, [],
 (.seq (.region [⟨true, ⟨(some 8), .mov (.c (.bool true)), [], none⟩⟩] [] 0)
 (.seq (.region [⟨true, ⟨(some 9), .mov (.c (.bool true)), [], none⟩⟩] [] 0)
 (.block 0 (.loop (.block 1 (.seq (.region [⟨true, ⟨(some 19), .mov (.t 2), [], none⟩⟩,
   ⟨true, ⟨(some 20), .mov (.t 1), [], none⟩⟩,
   ⟨true, ⟨(some 21), .bin .sub (.t 19) (.t 20), [0, 1], none⟩⟩,
   ⟨true, ⟨(some 10), .mov (.t 21), [2, 0, 1, 2], none⟩⟩] [] 3670016)
 (.seq (.seq (.region [⟨true, ⟨(some 22), .mov (.t 10), [], none⟩⟩,
   ⟨true, ⟨(some 23), .bin .leq (.t 22) (.c (.int .i64 (.ofNat 12))), [0], none⟩⟩] [] 4194304)
 (.cond (.t 23)
  (.seq (.region [⟨true, ⟨(some 24), .mov (.t 0), [], none⟩⟩,
    ⟨true, ⟨(some 25), .mov (.t 1), [], none⟩⟩,
    ⟨true, ⟨(some 26), .mov (.t 2), [], none⟩⟩,
    ⟨true, ⟨(some 27), .call .heap (.f 206) [(.t 24), (.t 25), (.t 26)], [0, 1, 2], none⟩⟩] [] 154667177631247541668415247)
  .ret)
  .skip))
 (.seq (.seq (.region [⟨true, ⟨(some 28), .mov (.t 3), [], none⟩⟩,
   ⟨true, ⟨(some 29), .bin .eql (.t 28) (.c (.int .i64 (.ofNat 0))), [0], none⟩⟩] [] 276824064)
 (.cond (.t 29)
  (.seq (.region [⟨true, ⟨(some 30), .mov (.t 0), [], none⟩⟩,
    ⟨true, ⟨(some 31), .mov (.t 1), [], none⟩⟩,
    ⟨true, ⟨(some 32), .mov (.t 2), [], none⟩⟩,
    ⟨true, ⟨(some 33), .call .heap (.f 207) [(.t 30), (.t 31), (.t 32)], [0, 1, 2], none⟩⟩] [] 154667177631247558051366671)
  .ret)
  .skip))
 (.seq (.seq (.region [⟨true, ⟨(some 34), .mov (.t 8), [], none⟩⟩,
   ⟨true, ⟨(some 35), .un .not (.t 34), [0], none⟩⟩] [] 17716740096)
 (.cond (.t 35)
  (.seq (.region [⟨true, ⟨(some 36), .mov (.t 0), [], none⟩⟩,
    ⟨true, ⟨(some 37), .mov (.t 1), [], none⟩⟩,
    ⟨true, ⟨(some 38), .mov (.t 2), [], none⟩⟩,
    ⟨true, ⟨(some 39), .call .heap (.f 208) [(.t 36), (.t 37), (.t 38)], [0, 1, 2], none⟩⟩] [] 1065151889408)
  (.region [⟨true, ⟨(some 40), .mov (.t 3), [], none⟩⟩,
    ⟨true, ⟨(some 41), .bin .sub (.t 40) (.c (.int .i64 (.ofNat 1))), [0], none⟩⟩,
    ⟨false, ⟨(some 3), .mov (.t 41), [1, 0, 1], none⟩⟩] [] 3298534883328))
  .skip))
 (.seq (.region [⟨true, ⟨(some 43), .mov (.t 0), [], none⟩⟩,
   ⟨true, ⟨(some 44), .mov (.t 1), [], none⟩⟩,
   ⟨true, ⟨(some 45), .mov (.t 2), [], none⟩⟩,
   ⟨true, ⟨(some 46), .call .heap (.f 209) [(.t 43), (.t 44), (.t 45)], [0, 1, 2], none⟩⟩,
   ⟨true, ⟨(some 42), .mov (.t 46), [3], none⟩⟩,
   ⟨true, ⟨(some 47), .extract 0 (.t 42), [4], none⟩⟩,
   ⟨true, ⟨(some 48), .extract 1 (.t 42), [4], none⟩⟩,
   ⟨true, ⟨(some 11), .mov (.t 47), [5, 3, 0, 1, 2, 3, 4, 5], none⟩⟩,
   ⟨true, ⟨(some 12), .mov (.t 48), [6, 7, 0, 1, 2, 3, 4, 5, 6, 7], none⟩⟩] [] 558586266648576)
 (.seq (.seq (.region [⟨true, ⟨(some 49), .mov (.t 12), [], none⟩⟩,
   ⟨true, ⟨(some 50), .bin .eql (.t 49) (.c (.int .i64 (.ofNat 2))), [0], none⟩⟩] [] 562949953421312)
 (.cond (.t 50)
  (.seq (.region [⟨true, ⟨(some 51), .mov (.t 0), [], none⟩⟩,
    ⟨true, ⟨(some 52), .mov (.t 1), [], none⟩⟩,
    ⟨true, ⟨(some 53), .mov (.t 2), [], none⟩⟩,
    ⟨true, ⟨(some 54), .call .heap (.f 210) [(.t 51), (.t 52), (.t 53)], [0, 1, 2], none⟩⟩] [] 34902897112125440)
  (.seq (.region [⟨true, ⟨(some 55), .mov (.t 2), [], none⟩⟩,
    ⟨true, ⟨(some 56), .bin .sub (.t 55) (.c (.int .i64 (.ofNat 1))), [0], none⟩⟩,
    ⟨true, ⟨(some 57), .mov (.t 11), [], none⟩⟩,
    ⟨true, ⟨(some 58), .mov (.t 1), [], none⟩⟩,
    ⟨true, ⟨(some 59), .bin .sub (.t 57) (.t 58), [2, 3], none⟩⟩,
    ⟨true, ⟨(some 60), .bin .sub (.t 56) (.t 59), [1, 4], none⟩⟩,
    ⟨false, ⟨(some 11), .mov (.t 60), [5, 0, 1, 2, 3, 4, 5], none⟩⟩] [] 2269814212194729984)
  (.region [⟨true, ⟨(some 12), .mov (.c (.int .i64 (.ofNat 1))), [], none⟩⟩] [] 0)))
  .skip))
 (.seq (.seq (.region [⟨true, ⟨(some 61), .mov (.t 8), [], none⟩⟩,
   ⟨true, ⟨(some 62), .mov (.t 61), [0], none⟩⟩,
   ⟨false, ⟨(some 63), .mov (.t 9), [1], (some (62, true))⟩⟩,
   ⟨true, ⟨(some 64), .pick (.t 62) (.t 63) (.c (.bool false)), [1, 2], none⟩⟩,
   ⟨true, ⟨(some 65), .mov (.t 64), [3, 1], none⟩⟩,
   ⟨false, ⟨(some 66), .mov (.t 12), [4], (some (65, true))⟩⟩,
   ⟨false, ⟨(some 67), .bin .eql (.t 66) (.c (.int .i64 (.ofNat 1))), [5, 4], (some (65, true))⟩⟩,
   ⟨true, ⟨(some 68), .pick (.t 65) (.t 67) (.c (.bool false)), [4, 6], none⟩⟩] [] 62258887148676583424)
 (.cond (.t 68)
  (.seq (.region [⟨true, ⟨(some 69), .mov (.t 0), [], none⟩⟩,
    ⟨true, ⟨(some 70), .mov (.t 1), [], none⟩⟩,
    ⟨true, ⟨(some 71), .mov (.t 2), [], none⟩⟩,
    ⟨true, ⟨(some 72), .call .heap (.f 211) [(.t 69), (.t 70), (.t 71)], [0, 1, 2], none⟩⟩] [] 4427218577690292387840)
  (.cond (.t 72)
   .ret
   .skip))
  .skip))
 (.seq (.seq (.region [⟨true, ⟨(some 73), .mov (.t 1), [], none⟩⟩,
   ⟨true, ⟨(some 74), .bin .gtr (.t 73) (.c (.int .i64 (.ofNat 0))), [0], none⟩⟩,
   ⟨true, ⟨(some 75), .mov (.t 74), [1], none⟩⟩,
   ⟨false, ⟨(some 76), .mov (.t 0), [2], (some (75, true))⟩⟩,
   ⟨false, ⟨(some 77), .mov (.t 1), [2], (some (75, true))⟩⟩,
   ⟨false, ⟨(some 78), .bin .sub (.t 77) (.c (.int .i64 (.ofNat 1))), [4, 2], (some (75, true))⟩⟩,
   ⟨false, ⟨(some 79), .iaddr none 1 (.t 76) (.t 78), [3, 5, 2], (some (75, true))⟩⟩,
   ⟨false, ⟨(some 80), .load none (.t 79), [6, 2], (some (75, true))⟩⟩,
   ⟨false, ⟨(some 81), .mov (.t 0), [2], (some (75, true))⟩⟩,
   ⟨false, ⟨(some 82), .mov (.t 11), [2], (some (75, true))⟩⟩,
   ⟨false, ⟨(some 83), .iaddr none 1 (.t 81) (.t 82), [8, 9, 2], (some (75, true))⟩⟩,
   ⟨false, ⟨(some 84), .load none (.t 83), [10, 2], (some (75, true))⟩⟩,
   ⟨false, ⟨(some 85), .call .heap (.f 212) [(.t 80), (.t 84)], [7, 11, 2, 2], (some (75, true))⟩⟩,
   ⟨false, ⟨(some 86), .un .not (.t 85), [12, 2], (some (75, true))⟩⟩,
   ⟨true, ⟨(some 87), .pick (.t 75) (.t 86) (.c (.bool false)), [2, 13], none⟩⟩] [] 71130645148224031031296)
 (.cond (.t 87)
  (.seq (.region [⟨true, ⟨(some 88), .mov (.t 0), [], none⟩⟩,
    ⟨true, ⟨(some 89), .mov (.t 1), [], none⟩⟩,
    ⟨true, ⟨(some 90), .mov (.t 2), [], none⟩⟩,
    ⟨true, ⟨(some 91), .mov (.t 11), [], none⟩⟩,
    ⟨true, ⟨(some 92), .call .heap (.f 213) [(.t 88), (.t 89), (.t 90), (.t 91)], [0, 1, 2, 3], none⟩⟩,
    ⟨true, ⟨(some 13), .mov (.t 92), [4, 4, 0, 1, 2, 3, 4], none⟩⟩] [] 9748777809372369664830606338)
  (.seq (.region [⟨true, ⟨(some 93), .mov (.t 13), [], none⟩⟩,
    ⟨true, ⟨(some 1), .mov (.t 93), [0, 0], none⟩⟩] [] 9903520314283042199193001984)
  (.exit 1)))
  .skip))
 (.seq (.region [⟨true, ⟨(some 95), .mov (.t 0), [], none⟩⟩,
   ⟨true, ⟨(some 96), .mov (.t 1), [], none⟩⟩,
   ⟨true, ⟨(some 97), .mov (.t 2), [], none⟩⟩,
   ⟨true, ⟨(some 98), .mov (.t 11), [], none⟩⟩,
   ⟨true, ⟨(some 99), .call .heap (.f 214) [(.t 95), (.t 96), (.t 97), (.t 98)], [0, 1, 2, 3], none⟩⟩,
   ⟨true, ⟨(some 94), .mov (.t 99), [4], none⟩⟩,
   ⟨true, ⟨(some 100), .extract 0 (.t 94), [5], none⟩⟩,
   ⟨true, ⟨(some 101), .extract 1 (.t 94), [5], none⟩⟩,
   ⟨true, ⟨(some 14), .mov (.t 100), [6, 4, 0, 1, 2, 3, 4, 5, 6], none⟩⟩,
   ⟨true, ⟨(some 15), .mov (.t 101), [7, 8, 0, 1, 2, 3, 4, 5, 6, 7, 8], none⟩⟩] [] 5050950102789262194122789227264)
 (.seq (.region [⟨true, ⟨(some 102), .mov (.t 15), [], none⟩⟩,
   ⟨true, ⟨(some 9), .mov (.t 102), [0, 0], none⟩⟩] [] 5070602400912917605986812854272)
 (.seq (.region [⟨true, ⟨(some 103), .mov (.t 14), [], none⟩⟩,
   ⟨true, ⟨(some 104), .mov (.t 1), [], none⟩⟩,
   ⟨true, ⟨(some 105), .bin .sub (.t 103) (.t 104), [0, 1], none⟩⟩,
   ⟨true, ⟨(some 106), .mov (.t 2), [], none⟩⟩,
   ⟨true, ⟨(some 107), .mov (.t 14), [], none⟩⟩,
   ⟨true, ⟨(some 108), .bin .sub (.t 106) (.t 107), [3, 4], none⟩⟩,
   ⟨true, ⟨(some 16), .mov (.t 105), [2, 0, 1, 2], none⟩⟩,
   ⟨true, ⟨(some 17), .mov (.t 108), [5, 6, 0, 1, 2, 3, 4, 5, 6], none⟩⟩] [] 638895902515027618354338415509504)
 (.seq (.region [⟨true, ⟨(some 109), .mov (.t 10), [], none⟩⟩,
   ⟨true, ⟨(some 110), .bin .quo (.t 109) (.c (.int .i64 (.ofNat 8))), [0], none⟩⟩,
   ⟨true, ⟨(some 18), .mov (.t 110), [1, 0, 1], none⟩⟩] [] 1947111321950560360698936123458560)
 (.seq (.region [⟨true, ⟨(some 111), .mov (.t 16), [], none⟩⟩,
   ⟨true, ⟨(some 112), .mov (.t 17), [], none⟩⟩,
   ⟨true, ⟨(some 113), .bin .lss (.t 111) (.t 112), [0, 1], none⟩⟩] [] 7788445287802241442795744493830144)
 (.cond (.t 113)
  (.seq (.region [⟨true, ⟨(some 114), .mov (.t 16), [], none⟩⟩,
    ⟨true, ⟨(some 115), .mov (.t 18), [], none⟩⟩,
    ⟨true, ⟨(some 116), .bin .geq (.t 114) (.t 115), [0, 1], none⟩⟩,
    ⟨true, ⟨(some 8), .mov (.t 116), [2, 0, 1, 2], none⟩⟩] [] 155768905756044828855914889877061632)
  (.seq (.region [⟨true, ⟨(some 117), .mov (.t 0), [], none⟩⟩,
    ⟨true, ⟨(some 118), .mov (.t 1), [], none⟩⟩,
    ⟨true, ⟨(some 119), .mov (.t 14), [], none⟩⟩,
    ⟨true, ⟨(some 120), .mov (.t 3), [], none⟩⟩,
    ⟨true, ⟨(some 121), .call .heap (.f 157) [(.t 117), (.t 118), (.t 119), (.t 120)], [0, 1, 2, 3], none⟩⟩] [] 5150758483666549007502252358586335234)
  (.region [⟨true, ⟨(some 122), .mov (.t 14), [], none⟩⟩,
    ⟨true, ⟨(some 123), .bin .add (.t 122) (.c (.int .i64 (.ofNat 1))), [0], none⟩⟩,
    ⟨true, ⟨(some 1), .mov (.t 123), [1, 0, 1], none⟩⟩] [] 15950735949418990474845684723364151296)))
  (.seq (.region [⟨true, ⟨(some 124), .mov (.t 17), [], none⟩⟩,
    ⟨true, ⟨(some 125), .mov (.t 18), [], none⟩⟩,
    ⟨true, ⟨(some 126), .bin .geq (.t 124) (.t 125), [0, 1], none⟩⟩,
    ⟨true, ⟨(some 8), .mov (.t 126), [2, 0, 1, 2], none⟩⟩] [] 148883920121627647420483451744057491456)
  (.seq (.region [⟨true, ⟨(some 127), .mov (.t 0), [], none⟩⟩,
    ⟨true, ⟨(some 128), .mov (.t 14), [], none⟩⟩,
    ⟨true, ⟨(some 129), .bin .add (.t 128) (.c (.int .i64 (.ofNat 1))), [1], none⟩⟩,
    ⟨true, ⟨(some 130), .mov (.t 2), [], none⟩⟩,
    ⟨true, ⟨(some 131), .mov (.t 3), [], none⟩⟩,
    ⟨true, ⟨(some 132), .call .heap (.f 157) [(.t 127), (.t 129), (.t 130), (.t 131)], [0, 2, 3, 4], none⟩⟩] [] 10718894558009561599096300134100698660868)
  (.region [⟨true, ⟨(some 133), .mov (.t 14), [], none⟩⟩,
    ⟨true, ⟨(some 2), .mov (.t 133), [0, 0], none⟩⟩] [] 10889035741470030830827987437816582782976))))))))))))))))))))))⟩
def f159 : FFn := ⟨19, [.tmp 4],
 (.seq (.region [⟨true, ⟨(some 4), .mov (.c (.int .i64 (.ofNat 0))), [], none⟩⟩] [] 16)
 (.seq (.seq (.region [⟨true, ⟨(some 6), .mov (.t 0), [], none⟩⟩,
   ⟨true, ⟨(some 7), .len 1 (.t 6), [0], none⟩⟩,
   ⟨true, ⟨(some 8), .mov (.c (.int .i64 (.ofNat 0))), [], none⟩⟩] [] 64)
 (.block 0 (.loop (.seq (.region [⟨true, ⟨(some 9), .bin .lss (.t 8) (.t 7), [], none⟩⟩] [] 0)
 (.seq (.cond (.t 9)
  .skip
  (.exit 0))
 (.seq (.block 1 (.seq (.region [⟨true, ⟨(some 10), .mov (.t 8), [], none⟩⟩,
   ⟨true, ⟨(some 5), .mov (.t 10), [0, 0], none⟩⟩] [] 1536)
 (.seq (.region [⟨true, ⟨(some 11), .mov (.t 1), [], none⟩⟩,
   ⟨true, ⟨(some 12), .mov (.t 0), [], none⟩⟩,
   ⟨true, ⟨(some 13), .mov (.t 5), [], none⟩⟩,
   ⟨true, ⟨(some 14), .iaddr none 1 (.t 12) (.t 13), [1, 2], none⟩⟩,
   ⟨true, ⟨(some 15), .load none (.t 14), [3], none⟩⟩,
   ⟨true, ⟨(some 16), .call .heap (.t 11) [(.t 15)], [0, 4], none⟩⟩] [] 63488)
 (.cond (.t 16)
  (.seq (.region [⟨true, ⟨(some 17), .mov (.t 5), [], none⟩⟩,
    ⟨true, ⟨(some 4), .mov (.t 17), [0, 0], none⟩⟩] [] 197027)
  .ret)
  .skip))))
 (.region [⟨true, ⟨(some 18), .bin .add (.t 8) (.c (.int .i64 (.ofNat 1))), [], none⟩⟩,
   ⟨false, ⟨(some 8), .mov (.t 18), [0], none⟩⟩] [] 327728)))))))
 (.seq (.region [⟨true, ⟨(some 4), .mov (.c (.int .i64 (.negSucc 0))), [], none⟩⟩] [] 387)
 .ret)))⟩
def f162 : FFn := ⟨17, [.tmp 4],
 (.seq (.region [⟨true, ⟨(some 2), .box .dyn (.t 0), [], none⟩⟩,
   ⟨true, ⟨(some 4), .mov (.c (.int .i64 (.ofNat 0))), [], none⟩⟩] [] 17)
 (.seq (.seq (.region [⟨true, ⟨(some 6), .load (some 5) (.t 2), [], none⟩⟩,
   ⟨true, ⟨(some 7), .call .heap (.f 217) [(.t 6)], [0], none⟩⟩,
   ⟨true, ⟨(some 5), .mov (.t 7), [1, 1, 0, 1], none⟩⟩] [] 196)
 (.seq (.region [⟨true, ⟨(some 8), .mov (.t 5), [], none⟩⟩,
   ⟨true, ⟨(some 9), .bin .neq (.t 8) (.c (.int .i64 (.ofNat 0))), [0], none⟩⟩] [] 256)
 (.cond (.t 9)
  (.seq (.region [⟨true, ⟨(some 10), .mov (.t 5), [], none⟩⟩,
    ⟨true, ⟨(some 4), .mov (.t 10), [0, 0], none⟩⟩] [] 1570)
  .ret)
  .skip)))
 (.seq (.seq (.region [⟨true, ⟨(some 11), .mov (.t 1), [], none⟩⟩,
   ⟨true, ⟨(some 12), .bin .lss (.t 11) (.c (.int .i64 (.ofNat 1))), [0], none⟩⟩,
   ⟨true, ⟨(some 13), .mov (.t 12), [1], none⟩⟩,
   ⟨true, ⟨(some 14), .mov (.t 1), [2], (some (13, false))⟩⟩,
   ⟨true, ⟨(some 15), .bin .gtr (.t 14) (.c (.int .i64 (.ofNat 4))), [3, 2], (some (13, false))⟩⟩,
   ⟨true, ⟨(some 16), .pick (.t 13) (.c (.bool true)) (.t 15), [2, 4], none⟩⟩] [] 64050)
 (.cond (.t 16)
  (.seq (.region [⟨true, ⟨(some 4), .mov (.c (.int .i64 (.ofNat 2))), [], none⟩⟩] [] 65536)
  .ret)
  .skip))
 (.seq (.region [⟨false, ⟨(some 4), .mov (.c (.int .i64 (.ofNat 0))), [], none⟩⟩] [] 65536)
 .ret))))⟩
def f163 : FFn := ⟨49, [.tmp 2, .tmp 3, .tmp 4],
 (.seq (.region [⟨true, ⟨(some 1), .box .dyn (.t 0), [], none⟩⟩,
   ⟨true, ⟨(some 2), .mov (.c .nilsl), [], none⟩⟩,
   ⟨true, ⟨(some 3), .mov (.c (.bool false)), [1], none⟩⟩,
   ⟨true, ⟨(some 4), .mov (.c (.int .i64 (.ofNat 0))), [2], none⟩⟩] [] 29)
 (.seq (.seq (.region [⟨true, ⟨(some 11), .load (some 5) (.t 1), [], none⟩⟩,
   ⟨true, ⟨(some 12), .call .heap (.f 217) [(.t 11)], [0], none⟩⟩,
   ⟨true, ⟨(some 5), .mov (.t 12), [1, 1, 0, 1], none⟩⟩] [] 6144)
 (.seq (.region [⟨true, ⟨(some 13), .mov (.t 5), [], none⟩⟩,
   ⟨true, ⟨(some 14), .bin .neq (.t 13) (.c (.int .i64 (.ofNat 0))), [0], none⟩⟩] [] 8192)
 (.cond (.t 14)
  (.seq (.region [⟨true, ⟨(some 15), .mov (.t 5), [], none⟩⟩,
    ⟨true, ⟨(some 2), .mov (.c .nilsl), [], none⟩⟩,
    ⟨true, ⟨(some 3), .mov (.c (.bool false)), [1, 1], none⟩⟩,
    ⟨true, ⟨(some 4), .mov (.t 15), [0, 2, 0, 1, 2], none⟩⟩] [] 49186)
  .ret)
  .skip)))
 (.seq (.region [⟨true, ⟨(some 17), .faddr 0 (.t 1), [], none⟩⟩,
   ⟨true, ⟨(some 18), .load (some 4) (.t 17), [0], none⟩⟩,
   ⟨true, ⟨(some 19), .call .heap (.f 218) [(.t 18)], [1], none⟩⟩,
   ⟨true, ⟨(some 16), .mov (.t 19), [2], none⟩⟩,
   ⟨true, ⟨(some 20), .extract 0 (.t 16), [3], none⟩⟩,
   ⟨true, ⟨(some 21), .extract 1 (.t 16), [3], none⟩⟩,
   ⟨true, ⟨(some 6), .mov (.t 20), [4, 2, 0, 1, 2, 3, 4], none⟩⟩,
   ⟨true, ⟨(some 7), .mov (.t 21), [5, 6, 0, 1, 2, 3, 4, 5, 6], none⟩⟩] [] 4145340)
 (.seq (.region [⟨true, ⟨(some 8), .mov (.c .nilsl), [], none⟩⟩] [] 0)
 (.seq (.seq (.region [⟨true, ⟨(some 22), .faddr 0 (.t 1), [], none⟩⟩,
   ⟨true, ⟨(some 23), .faddr 1 (.t 22), [0], none⟩⟩,
   ⟨true, ⟨(some 24), .load none (.t 23), [1], none⟩⟩,
   ⟨true, ⟨(some 25), .mov (.c (.int .i64 (.ofNat 0))), [], none⟩⟩] [] 12582912)
 (.block 0 (.loop (.seq (.region [⟨true, ⟨(some 26), .bin .lss (.t 25) (.t 24), [], none⟩⟩] [] 0)
 (.seq (.cond (.t 26)
  .skip
  (.exit 0))
 (.seq (.block 1 (.seq (.region [⟨true, ⟨(some 27), .mov (.t 25), [], none⟩⟩,
   ⟨true, ⟨(some 9), .mov (.t 27), [0, 0], none⟩⟩] [] 201326592)
 (.region [⟨true, ⟨(some 28), .mov (.t 8), [], none⟩⟩,
   ⟨true, ⟨(some 29), .mov (.t 9), [], none⟩⟩,
   ⟨true, ⟨(some 30), .bslice false .dyn 1 1 [(.int .i64 (.ofNat 0))] [(0, 1, (.t 29))], [1], none⟩⟩,
   ⟨true, ⟨(some 31), .append .dyn 1 8 (.t 28) (.t 30), [0, 2], none⟩⟩,
   ⟨false, ⟨(some 8), .mov (.t 31), [3, 3, 0, 1, 2, 3], none⟩⟩] [] 4026532352)))
 (.region [⟨true, ⟨(some 32), .bin .add (.t 25) (.c (.int .i64 (.ofNat 1))), [], none⟩⟩,
   ⟨false, ⟨(some 25), .mov (.t 32), [0], none⟩⟩] [] 4294967296)))))))
 (.seq (.seq (.region [⟨true, ⟨(some 33), .mov (.t 6), [], none⟩⟩,
   ⟨true, ⟨(some 34), .len 1 (.t 33), [0], none⟩⟩,
   ⟨true, ⟨(some 35), .bin .eql (.t 34) (.c (.int .i64 (.ofNat 0))), [1], none⟩⟩] [] 25820135424)
 (.cond (.t 35)
  (.seq (.region [⟨true, ⟨(some 2), .mov (.c .nilsl), [], none⟩⟩,
    ⟨true, ⟨(some 3), .mov (.c (.bool true)), [0, 0], none⟩⟩,
    ⟨true, ⟨(some 4), .mov (.c (.int .i64 (.ofNat 0))), [1, 0, 1], none⟩⟩] [] 34359738690)
  .ret)
  .skip))
 (.seq (.region [⟨true, ⟨(some 37), .faddr 0 (.t 1), [], none⟩⟩,
   ⟨true, ⟨(some 38), .load (some 4) (.t 37), [0], none⟩⟩,
   ⟨true, ⟨(some 39), .mov (.t 6), [], none⟩⟩,
   ⟨true, ⟨(some 40), .mov (.t 8), [], none⟩⟩,
   ⟨true, ⟨(some 41), .call .heap (.f 219) [(.t 38), (.c (.int .i64 (.ofNat 0))), (.t 39), (.t 40)], [1, 2, 3], none⟩⟩,
   ⟨true, ⟨(some 36), .mov (.t 41), [4], none⟩⟩,
   ⟨true, ⟨(some 42), .extract 0 (.t 36), [5], none⟩⟩,
   ⟨true, ⟨(some 43), .extract 1 (.t 36), [5], none⟩⟩,
   ⟨true, ⟨(some 44), .extract 2 (.t 36), [5], none⟩⟩,
   ⟨false, ⟨(some 2), .mov (.t 42), [6, 4, 0, 1, 2, 3, 4, 5, 6], none⟩⟩,
   ⟨true, ⟨(some 10), .mov (.t 43), [7, 9, 0, 1, 2, 3, 4, 5, 6, 7, 9], none⟩⟩,
   ⟨false, ⟨(some 4), .mov (.t 44), [8, 10, 0, 1, 2, 3, 4, 5, 6, 7, 8, 9, 10], none⟩⟩] [] 35150012350794)
 (.seq (.region [⟨true, ⟨(some 45), .mov (.t 2), [], none⟩⟩,
   ⟨true, ⟨(some 46), .mov (.t 10), [], none⟩⟩,
   ⟨true, ⟨(some 47), .un .not (.t 46), [1], none⟩⟩,
   ⟨true, ⟨(some 48), .mov (.t 4), [], none⟩⟩,
   ⟨false, ⟨(some 2), .mov (.t 45), [0, 0], none⟩⟩,
   ⟨true, ⟨(some 3), .mov (.t 47), [2, 4, 0, 1, 2, 4], none⟩⟩,
   ⟨false, ⟨(some 4), .mov (.t 48), [3, 5, 0, 1, 2, 3, 4, 5], none⟩⟩] [] 527765581333504)
 .ret))))))))⟩
def f164 : FFn := ⟨28, [.tmp 2, .tmp 3, .tmp 4, .tmp 5],
 (.seq (.region [⟨true, ⟨(some 1), .box .dyn (.t 0), [], none⟩⟩,
   ⟨true, ⟨(some 2), .mov (.c .nilsl), [], none⟩⟩,
   ⟨true, ⟨(some 3), .mov (.c .nilsl), [1], none⟩⟩,
   ⟨true, ⟨(some 4), .mov (.c (.bool false)), [2], none⟩⟩,
   ⟨true, ⟨(some 5), .mov (.c (.int .i64 (.ofNat 0))), [3], none⟩⟩] [] 61)
 (.seq (.seq (.region [⟨true, ⟨(some 9), .load (some 5) (.t 1), [], none⟩⟩,
   ⟨true, ⟨(some 10), .call .heap (.f 217) [(.t 9)], [0], none⟩⟩,
   ⟨true, ⟨(some 6), .mov (.t 10), [1, 1, 0, 1], none⟩⟩] [] 1536)
 (.seq (.region [⟨true, ⟨(some 11), .mov (.t 6), [], none⟩⟩,
   ⟨true, ⟨(some 12), .bin .neq (.t 11) (.c (.int .i64 (.ofNat 0))), [0], none⟩⟩] [] 2048)
 (.cond (.t 12)
  (.seq (.region [⟨true, ⟨(some 13), .mov (.t 6), [], none⟩⟩,
    ⟨true, ⟨(some 2), .mov (.c .nilsl), [], none⟩⟩,
    ⟨true, ⟨(some 3), .mov (.c .nilsl), [1, 1], none⟩⟩,
    ⟨true, ⟨(some 4), .mov (.c (.bool false)), [2, 1, 2], none⟩⟩,
    ⟨true, ⟨(some 5), .mov (.t 13), [0, 3, 0, 1, 2, 3], none⟩⟩] [] 12354)
  .ret)
  .skip)))
 (.seq (.region [⟨true, ⟨(some 15), .faddr 4 (.t 1), [], none⟩⟩,
   ⟨true, ⟨(some 16), .load none (.t 15), [0], none⟩⟩,
   ⟨true, ⟨(some 17), .call .heap (.f 63) [(.t 16), (.c (.int .i64 (.ofNat 4)))], [1], none⟩⟩,
   ⟨true, ⟨(some 14), .mov (.t 17), [2], none⟩⟩,
   ⟨true, ⟨(some 18), .extract 0 (.t 14), [3], none⟩⟩,
   ⟨true, ⟨(some 19), .extract 1 (.t 14), [3], none⟩⟩,
   ⟨true, ⟨(some 7), .mov (.t 18), [4, 2, 0, 1, 2, 3, 4], none⟩⟩,
   ⟨true, ⟨(some 8), .mov (.t 19), [5, 6, 0, 1, 2, 3, 4, 5, 6], none⟩⟩] [] 1036668)
 (.seq (.region [⟨true, ⟨(some 20), .faddr 0 (.t 1), [], none⟩⟩,
   ⟨true, ⟨(some 21), .load (some 4) (.t 20), [0], none⟩⟩,
   ⟨true, ⟨(some 22), .mov (.t 7), [], none⟩⟩,
   ⟨true, ⟨(some 23), .call .heap (.f 220) [(.t 21), (.t 22)], [1, 2], none⟩⟩,
   ⟨true, ⟨(some 24), .extract 0 (.t 23), [3], none⟩⟩,
   ⟨true, ⟨(some 25), .extract 1 (.t 23), [3], none⟩⟩,
   ⟨true, ⟨(some 26), .extract 2 (.t 23), [3], none⟩⟩,
   ⟨true, ⟨(some 27), .extract 3 (.t 23), [3], none⟩⟩,
   ⟨true, ⟨(some 2), .mov (.t 24), [4, 3, 0, 1, 2, 3, 4, 5, 6, 7], none⟩⟩,
   ⟨true, ⟨(some 3), .mov (.t 25), [5, 8, 0, 1, 2, 3, 4, 5, 6, 7, 8], none⟩⟩,
   ⟨true, ⟨(some 4), .mov (.t 26), [6, 9, 0, 1, 2, 3, 4, 5, 6, 7, 8, 9], none⟩⟩,
   ⟨true, ⟨(some 5), .mov (.t 27), [7, 10, 0, 1, 2, 3, 4, 5, 6, 7, 8, 9, 10], none⟩⟩] [] 267387010)
 .ret))))⟩
def f165 : FFn := ⟨114, [.tmp 6, .tmp 7],
 (.seq (.region [⟨true, ⟨(some 3), .box .dyn (.t 0), [], none⟩⟩,
   ⟨true, ⟨(some 4), .box .dyn (.t 1), [], none⟩⟩,
   ⟨true, ⟨(some 6), .mov (.c .nilsl), [], none⟩⟩,
   ⟨true, ⟨(some 7), .mov (.c .nilsl), [2], none⟩⟩] [] 3)
 (.seq (.seq (.region [⟨true, ⟨(some 15), .faddr 0 (.t 3), [], none⟩⟩,
   ⟨true, ⟨(some 16), .faddr 0 (.t 15), [0], none⟩⟩,
   ⟨true, ⟨(some 17), .load none (.t 16), [1], none⟩⟩,
   ⟨true, ⟨(some 18), .len 1 (.t 17), [2], none⟩⟩,
   ⟨true, ⟨(some 19), .mov (.c (.int .i64 (.ofNat 0))), [], none⟩⟩] [] 98304)
 (.block 0 (.loop (.seq (.region [⟨true, ⟨(some 20), .bin .lss (.t 19) (.t 18), [], none⟩⟩] [] 0)
 (.seq (.cond (.t 20)
  .skip
  (.exit 0))
 (.seq (.block 1 (.seq (.region [⟨true, ⟨(some 21), .iaddr none 1 (.t 17) (.t 19), [], none⟩⟩,
   ⟨true, ⟨(some 22), .load none (.t 21), [0], none⟩⟩,
   ⟨true, ⟨(some 9), .mov (.t 22), [1, 0, 1], none⟩⟩] [] 7340032)
 (.seq (.region [⟨true, ⟨(some 23), .faddr 4 (.t 3), [], none⟩⟩,
   ⟨true, ⟨(some 24), .load none (.t 23), [0], none⟩⟩,
   ⟨true, ⟨(some 25), .mov (.t 9), [], none⟩⟩,
   ⟨true, ⟨(some 26), .iaddr none 5 (.t 24) (.t 25), [1, 2], none⟩⟩,
   ⟨true, ⟨(some 27), .load (some 5) (.t 26), [3], none⟩⟩,
   ⟨true, ⟨(some 10), .alloc .dyn (.agg [(.str []), (.bool false), (.bool false), (.bool false), (.int .i64 (.ofNat 0))]), [], none⟩⟩,
   ⟨false, ⟨none, .store 5 (.t 10) (.t 27), [5, 4, 0, 1, 2, 3, 4, 5], none⟩⟩] [] 260046848)
 (.seq (.region [⟨true, ⟨(some 29), .load (some 5) (.t 3), [], none⟩⟩,
   ⟨true, ⟨(some 30), .faddr 0 (.t 4), [], none⟩⟩,
   ⟨true, ⟨(some 31), .load none (.t 30), [1], none⟩⟩,
   ⟨true, ⟨(some 32), .mov (.t 9), [], none⟩⟩,
   ⟨true, ⟨(some 33), .call .heap (.f 221) [(.t 29), (.t 31), (.t 32)], [0, 2, 3], none⟩⟩,
   ⟨true, ⟨(some 28), .mov (.t 33), [4], none⟩⟩,
   ⟨true, ⟨(some 34), .extract 0 (.t 28), [5], none⟩⟩,
   ⟨true, ⟨(some 35), .extract 1 (.t 28), [5], none⟩⟩,
   ⟨true, ⟨(some 11), .mov (.t 34), [6, 4, 0, 1, 2, 3, 4, 5, 6], none⟩⟩,
   ⟨true, ⟨(some 12), .mov (.t 35), [7, 8, 0, 1, 2, 3, 4, 5, 6, 7, 8], none⟩⟩] [] 68451041280)
 (.seq (.region [⟨true, ⟨(some 37), .load (some 5) (.t 3), [], none⟩⟩,
   ⟨true, ⟨(some 38), .faddr 2 (.t 4), [], none⟩⟩,
   ⟨true, ⟨(some 39), .load none (.t 38), [1], none⟩⟩,
   ⟨true, ⟨(some 40), .mov (.t 9), [], none⟩⟩,
   ⟨true, ⟨(some 41), .call .heap (.f 221) [(.t 37), (.t 39), (.t 40)], [0, 2, 3], none⟩⟩,
   ⟨true, ⟨(some 36), .mov (.t 41), [4], none⟩⟩,
   ⟨true, ⟨(some 42), .extract 0 (.t 36), [5], none⟩⟩,
   ⟨true, ⟨(some 43), .extract 1 (.t 36), [5], none⟩⟩,
   ⟨true, ⟨(some 13), .mov (.t 42), [6, 4, 0, 1, 2, 3, 4, 5, 6], none⟩⟩,
   ⟨true, ⟨(some 14), .mov (.t 43), [7, 8, 0, 1, 2, 3, 4, 5, 6, 7, 8], none⟩⟩] [] 17523466567680)
 (.block 2 (.seq (.region [⟨true, ⟨(some 87), .faddr 2 (.t 10), [], none⟩⟩,
   ⟨true, ⟨(some 88), .load none (.t 87), [0], none⟩⟩,
   ⟨true, ⟨(some 89), .mov (.t 88), [1], none⟩⟩,
   ⟨false, ⟨(some 90), .mov (.t 12), [2], (some (89, true))⟩⟩,
   ⟨true, ⟨(some 91), .pick (.t 89) (.t 90) (.c (.bool false)), [2, 3], none⟩⟩,
   ⟨true, ⟨(some 92), .mov (.t 91), [4, 2], none⟩⟩,
   ⟨false, ⟨(some 93), .mov (.t 14), [5], (some (92, true))⟩⟩,
   ⟨true, ⟨(some 94), .pick (.t 92) (.t 93) (.c (.bool false)), [5, 6], none⟩⟩,
   ⟨true, ⟨(some 86), .mov (.t 94), [7, 5], none⟩⟩] [] 28317878398653073788317466624)
 (.cond (.t 86)
  (.region [⟨true, ⟨(some 95), .mov (.t 6), [], none⟩⟩,
    ⟨true, ⟨(some 96), .mov (.t 9), [], none⟩⟩,
    ⟨true, ⟨(some 97), .build [(.int .i64 (.ofNat 0)), (.int .i64 (.ofNat 0)), (.int .i64 (.ofNat 0)), (.int .i64 (.ofNat 0))] [(1, 1, (.t 96)), (2, 1, (.c (.int .i64 (.ofNat 0))))], [1], none⟩⟩,
    ⟨true, ⟨(some 98), .bslice false .dyn 4 1 [(.int .i64 (.ofNat 0)), (.int .i64 (.ofNat 0)), (.int .i64 (.ofNat 0)), (.int .i64 (.ofNat 0))] [(0, 4, (.t 97))], [2], none⟩⟩,
    ⟨true, ⟨(some 99), .append .dyn 4 32 (.t 95) (.t 98), [0, 3], none⟩⟩,
    ⟨true, ⟨(some 100), .mov (.t 7), [], none⟩⟩,
    ⟨true, ⟨(some 101), .mov (.t 11), [], none⟩⟩,
    ⟨true, ⟨(some 102), .faddr 1 (.t 4), [], none⟩⟩,
    ⟨true, ⟨(some 103), .load none (.t 102), [7], none⟩⟩,
    ⟨true, ⟨(some 104), .mov (.t 13), [], none⟩⟩,
    ⟨true, ⟨(some 105), .build [(.int .i64 (.ofNat 0)), (.bool false), (.int .i64 (.ofNat 0))] [(0, 1, (.t 101)), (1, 1, (.t 103)), (2, 1, (.t 104))], [6, 8, 9], none⟩⟩,
    ⟨true, ⟨(some 106), .bslice false .dyn 3 1 [(.int .i64 (.ofNat 0)), (.bool false), (.int .i64 (.ofNat 0))] [(0, 3, (.t 105))], [10], none⟩⟩,
    ⟨true, ⟨(some 107), .append .dyn 3 24 (.t 100) (.t 106), [5, 11, 4], none⟩⟩,
    ⟨false, ⟨(some 6), .mov (.t 99), [4, 12, 0, 1, 2, 3, 4], none⟩⟩,
    ⟨false, ⟨(some 7), .mov (.t 107), [12, 13, 0, 1, 2, 3, 4, 5, 6, 7, 8, 9, 10, 11, 12, 13], none⟩⟩] [(3, 8), (4, 8), (4, 11)] 324479016948422049950626429828608)
  (.seq (.region [⟨true, ⟨(some 109), .faddr 2 (.t 10), [], none⟩⟩,
    ⟨true, ⟨(some 110), .load none (.t 109), [0], none⟩⟩,
    ⟨true, ⟨(some 108), .mov (.t 110), [1], none⟩⟩] [] 1947111399321812816035203304652800)
  (.cond (.t 108)
   (.exit 1)
   (.seq (.seq (.region [⟨true, ⟨(some 44), .mov (.t 12), [], none⟩⟩] [] 324518553658426726783156020580352)
   (.cond (.t 44)
    (.region [⟨true, ⟨(some 45), .mov (.t 6), [], none⟩⟩,
      ⟨true, ⟨(some 46), .mov (.t 9), [], none⟩⟩,
      ⟨true, ⟨(some 47), .build [(.int .i64 (.ofNat 0)), (.int .i64 (.ofNat 0)), (.int .i64 (.ofNat 0)), (.int .i64 (.ofNat 0))] [(1, 1, (.t 46)), (2, 1, (.c (.int .i64 (.ofNat 1))))], [1], none⟩⟩,
      ⟨true, ⟨(some 48), .bslice false .dyn 4 1 [(.int .i64 (.ofNat 0)), (.int .i64 (.ofNat 0)), (.int .i64 (.ofNat 0)), (.int .i64 (.ofNat 0))] [(0, 4, (.t 47))], [2], none⟩⟩,
      ⟨true, ⟨(some 49), .append .dyn 4 32 (.t 45) (.t 48), [0, 3], none⟩⟩,
      ⟨true, ⟨(some 50), .mov (.t 7), [], none⟩⟩,
      ⟨true, ⟨(some 51), .mov (.t 11), [], none⟩⟩,
      ⟨true, ⟨(some 52), .faddr 1 (.t 4), [], none⟩⟩,
      ⟨true, ⟨(some 53), .load none (.t 52), [7], none⟩⟩,
      ⟨true, ⟨(some 54), .mov (.t 53), [8, 4], none⟩⟩,
      ⟨false, ⟨(some 55), .faddr 4 (.t 10), [9], (some (54, false))⟩⟩,
      ⟨false, ⟨(some 56), .load none (.t 55), [10, 9], (some (54, false))⟩⟩,
      ⟨false, ⟨(some 57), .mov (.t 2), [9], (some (54, false))⟩⟩,
      ⟨false, ⟨(some 58), .bin .eql (.t 56) (.t 57), [11, 12, 9], (some (54, false))⟩⟩,
      ⟨true, ⟨(some 59), .pick (.t 54) (.c (.bool true)) (.t 58), [9, 13], none⟩⟩,
      ⟨true, ⟨(some 60), .faddr 2 (.t 4), [], none⟩⟩,
      ⟨true, ⟨(some 61), .load none (.t 60), [15], none⟩⟩,
      ⟨true, ⟨(some 62), .build [(.int .i64 (.ofNat 0)), (.bool false), (.int .i64 (.ofNat 0))] [(0, 1, (.t 51)), (1, 1, (.t 59)), (2, 1, (.t 61))], [6, 14, 16], none⟩⟩,
      ⟨true, ⟨(some 63), .bslice false .dyn 3 1 [(.int .i64 (.ofNat 0)), (.bool false), (.int .i64 (.ofNat 0))] [(0, 3, (.t 62))], [17], none⟩⟩,
      ⟨true, ⟨(some 64), .append .dyn 3 24 (.t 50) (.t 63), [5, 18, 9], none⟩⟩,
      ⟨false, ⟨(some 6), .mov (.t 49), [4, 19, 0, 1, 2, 3, 4], none⟩⟩,
      ⟨false, ⟨(some 7), .mov (.t 64), [19, 20, 0, 1, 2, 3, 4, 5, 6, 7, 8, 9, 10, 11, 12, 13, 14, 15, 16, 17, 18, 19, 20], none⟩⟩] [(3, 8), (4, 8), (3, 16), (4, 16)] 36353038599948601344)
    .skip))
   (.seq (.region [⟨true, ⟨(some 65), .mov (.t 14), [], none⟩⟩,
     ⟨true, ⟨(some 66), .mov (.t 65), [0], none⟩⟩,
     ⟨false, ⟨(some 67), .faddr 4 (.t 10), [1], (some (66, true))⟩⟩,
     ⟨false, ⟨(some 68), .load none (.t 67), [2, 1], (some (66, true))⟩⟩,
     ⟨false, ⟨(some 69), .mov (.t 2), [1], (some (66, true))⟩⟩,
     ⟨false, ⟨(some 70), .bin .neq (.t 68) (.t 69), [3, 4, 1], (some (66, true))⟩⟩,
     ⟨true, ⟨(some 71), .pick (.t 66) (.t 70) (.c (.bool false)), [1, 5], none⟩⟩] [] 110680482034443373568)
   (.cond (.t 71)
    (.region [⟨true, ⟨(some 72), .mov (.t 6), [], none⟩⟩,
      ⟨true, ⟨(some 73), .mov (.t 9), [], none⟩⟩,
      ⟨true, ⟨(some 74), .build [(.int .i64 (.ofNat 0)), (.int .i64 (.ofNat 0)), (.int .i64 (.ofNat 0)), (.int .i64 (.ofNat 0))] [(1, 1, (.t 73)), (2, 1, (.c (.int .i64 (.ofNat 2))))], [1], none⟩⟩,
      ⟨true, ⟨(some 75), .bslice false .dyn 4 1 [(.int .i64 (.ofNat 0)), (.int .i64 (.ofNat 0)), (.int .i64 (.ofNat 0)), (.int .i64 (.ofNat 0))] [(0, 4, (.t 74))], [2], none⟩⟩,
      ⟨true, ⟨(some 76), .append .dyn 4 32 (.t 72) (.t 75), [0, 3], none⟩⟩,
      ⟨true, ⟨(some 77), .mov (.t 7), [], none⟩⟩,
      ⟨true, ⟨(some 78), .faddr 0 (.t 4), [], none⟩⟩,
      ⟨true, ⟨(some 79), .load none (.t 78), [6], none⟩⟩,
      ⟨true, ⟨(some 80), .faddr 1 (.t 4), [], none⟩⟩,
      ⟨true, ⟨(some 81), .load none (.t 80), [8], none⟩⟩,
      ⟨true, ⟨(some 82), .mov (.t 13), [], none⟩⟩,
      ⟨true, ⟨(some 83), .build [(.int .i64 (.ofNat 0)), (.bool false), (.int .i64 (.ofNat 0))] [(0, 1, (.t 79)), (1, 1, (.t 81)), (2, 1, (.t 82))], [7, 9, 10], none⟩⟩,
      ⟨true, ⟨(some 84), .bslice false .dyn 3 1 [(.int .i64 (.ofNat 0)), (.bool false), (.int .i64 (.ofNat 0))] [(0, 3, (.t 83))], [11], none⟩⟩,
      ⟨true, ⟨(some 85), .append .dyn 3 24 (.t 77) (.t 84), [5, 12, 4], none⟩⟩,
      ⟨false, ⟨(some 6), .mov (.t 76), [4, 13, 0, 1, 2, 3, 4], none⟩⟩,
      ⟨false, ⟨(some 7), .mov (.t 85), [13, 14, 0, 1, 2, 3, 4, 5, 6, 7, 8, 9, 10, 11, 12, 13, 14], none⟩⟩] [(3, 7), (4, 7), (3, 9), (4, 9), (4, 12)] 77368891272094832358597120)
    .skip)))))))))))))
 (.region [⟨true, ⟨(some 111), .bin .add (.t 19) (.c (.int .i64 (.ofNat 1))), [], none⟩⟩,
   ⟨false, ⟨(some 19), .mov (.t 111), [0], none⟩⟩] [] 2920666982928201724289839007825408)))))))
 (.seq (.region [⟨true, ⟨(some 112), .mov (.t 6), [], none⟩⟩,
   ⟨true, ⟨(some 113), .mov (.t 7), [], none⟩⟩,
   ⟨false, ⟨(some 6), .mov (.t 112), [0, 0], none⟩⟩,
   ⟨false, ⟨(some 7), .mov (.t 113), [1, 2, 0, 1, 2], none⟩⟩] [] 15576901717067050603734763511349276)
 .ret)))⟩
def f169 : FFn := ⟨9, [.tmp 4],
 (.seq (.region [⟨true, ⟨(some 4), .mov (.c (.bool false)), [], none⟩⟩] [] 16)
 (.seq (.region [⟨true, ⟨(some 5), .mov (.t 0), [], none⟩⟩,
   ⟨true, ⟨(some 6), .mov (.t 1), [], none⟩⟩,
   ⟨true, ⟨(some 7), .call .heap (.f 230) [(.t 5), (.t 6)], [0, 1], none⟩⟩,
   ⟨true, ⟨(some 8), .bin .geq (.t 7) (.c (.int .i64 (.ofNat 0))), [2], none⟩⟩,
   ⟨true, ⟨(some 4), .mov (.t 8), [3, 2, 0, 1, 2, 3], none⟩⟩] [] 483)
 .ret))⟩
def f173 : FFn := ⟨22, [.tmp 6],
 (.seq (.region [⟨true, ⟨(some 3), .box .dyn (.t 0), [], none⟩⟩,
   ⟨true, ⟨(some 5), .box .dyn (.t 2), [], none⟩⟩,
   ⟨true, ⟨(some 6), .mov (.c (.int .i64 (.ofNat 0))), [], none⟩⟩] [] 69)
 (.seq (.region [⟨true, ⟨(some 9), .load (some 4) (.t 3), [], none⟩⟩,
   ⟨true, ⟨(some 10), .mov (.t 1), [], none⟩⟩,
   ⟨true, ⟨(some 11), .call .heap (.f 181) [(.t 9), (.t 10)], [0, 1], none⟩⟩,
   ⟨true, ⟨(some 7), .mov (.t 11), [2, 2, 0, 1, 2], none⟩⟩] [] 3594)
 (.seq (.region [⟨true, ⟨(some 12), .mov (.t 7), [], none⟩⟩,
   ⟨true, ⟨(some 13), .mkfn 232 [] [(.t 5)], [], none⟩⟩,
   ⟨true, ⟨(some 14), .call .heap (.f 231) [(.t 12), (.t 13)], [0, 1], none⟩⟩,
   ⟨true, ⟨(some 8), .mov (.t 14), [2, 2, 0, 1, 2], none⟩⟩] [] 28704)
 (.seq (.seq (.region [⟨true, ⟨(some 15), .mov (.t 8), [], none⟩⟩,
   ⟨true, ⟨(some 16), .bin .lss (.t 15) (.c (.int .i64 (.ofNat 0))), [0], none⟩⟩] [] 32768)
 (.cond (.t 16)
  (.seq (.region [⟨true, ⟨(some 6), .mov (.c (.int .i64 (.negSucc 0))), [], none⟩⟩] [] 65920)
  .ret)
  .skip))
 (.seq (.region [⟨true, ⟨(some 17), .mov (.t 7), [], none⟩⟩,
   ⟨true, ⟨(some 18), .mov (.t 8), [], none⟩⟩,
   ⟨true, ⟨(some 19), .iaddr none 3 (.t 17) (.t 18), [0, 1], none⟩⟩,
   ⟨true, ⟨(some 20), .faddr 2 (.t 19), [2], none⟩⟩,
   ⟨true, ⟨(some 21), .load none (.t 20), [3], none⟩⟩,
   ⟨false, ⟨(some 6), .mov (.t 21), [4, 0, 1, 2, 3, 4], none⟩⟩] [] 4129152)
 .ret)))))⟩
def f180 : FFn := ⟨19, [.tmp 4],
 (.seq (.region [⟨true, ⟨(some 2), .box .dyn (.t 0), [], none⟩⟩,
   ⟨true, ⟨(some 4), .mov (.c (.int .i64 (.ofNat 0))), [], none⟩⟩] [] 17)
 (.seq (.seq (.region [⟨true, ⟨(some 6), .load (some 4) (.t 2), [], none⟩⟩,
   ⟨true, ⟨(some 7), .call .heap (.f 67) [(.t 6)], [0], none⟩⟩,
   ⟨true, ⟨(some 5), .mov (.t 7), [1, 1, 0, 1], none⟩⟩] [] 192)
 (.seq (.region [⟨true, ⟨(some 8), .mov (.t 5), [], none⟩⟩,
   ⟨true, ⟨(some 9), .bin .neq (.t 8) (.c (.int .i64 (.ofNat 0))), [0], none⟩⟩] [] 256)
 (.cond (.t 9)
  (.seq (.region [⟨true, ⟨(some 10), .mov (.t 5), [], none⟩⟩,
    ⟨true, ⟨(some 4), .mov (.t 10), [0, 0], none⟩⟩] [] 1574)
  .ret)
  .skip)))
 (.seq (.seq (.region [⟨true, ⟨(some 11), .mov (.t 1), [], none⟩⟩,
   ⟨true, ⟨(some 12), .bin .lss (.t 11) (.c (.int .i64 (.ofNat 0))), [0], none⟩⟩,
   ⟨true, ⟨(some 13), .mov (.t 12), [1], none⟩⟩,
   ⟨true, ⟨(some 14), .mov (.t 1), [2], (some (13, false))⟩⟩,
   ⟨true, ⟨(some 15), .faddr 1 (.t 2), [2], (some (13, false))⟩⟩,
   ⟨true, ⟨(some 16), .load none (.t 15), [4, 2], (some (13, false))⟩⟩,
   ⟨true, ⟨(some 17), .bin .geq (.t 14) (.t 16), [3, 5, 2], (some (13, false))⟩⟩,
   ⟨true, ⟨(some 18), .pick (.t 13) (.c (.bool true)) (.t 17), [2, 6], none⟩⟩] [] 260662)
 (.cond (.t 18)
  (.seq (.region [⟨true, ⟨(some 4), .mov (.c (.int .i64 (.ofNat 2))), [], none⟩⟩] [] 262144)
  .ret)
  .skip))
 (.seq (.region [⟨false, ⟨(some 4), .mov (.c (.int .i64 (.ofNat 0))), [], none⟩⟩] [] 262144)
 .ret))))⟩
def f181 : FFn := ⟨29, [.tmp 4],
 (.seq (.region [⟨true, ⟨(some 2), .box .dyn (.t 0), [], none⟩⟩,
   ⟨true, ⟨(some 4), .mov (.c .nilsl), [], none⟩⟩] [] 17)
 (.seq (.region [⟨true, ⟨(some 10), .faddr 3 (.t 2), [], none⟩⟩,
   ⟨true, ⟨(some 11), .load none (.t 10), [0], none⟩⟩,
   ⟨true, ⟨(some 12), .mov (.t 1), [], none⟩⟩,
   ⟨true, ⟨(some 13), .call .heap (.f 239) [(.t 11), (.t 12), (.f 240)], [1, 2], none⟩⟩,
   ⟨true, ⟨(some 9), .mov (.t 13), [3], none⟩⟩,
   ⟨true, ⟨(some 14), .extract 0 (.t 9), [4], none⟩⟩,
   ⟨true, ⟨(some 15), .extract 1 (.t 9), [4], none⟩⟩,
   ⟨true, ⟨(some 5), .mov (.t 14), [5, 3, 0, 1, 2, 3, 4, 5], none⟩⟩,
   ⟨true, ⟨(some 6), .mov (.t 15), [6, 7, 0, 1, 2, 3, 4, 5, 6, 7], none⟩⟩] [] 65088)
 (.seq (.region [⟨true, ⟨(some 17), .faddr 3 (.t 2), [], none⟩⟩,
   ⟨true, ⟨(some 18), .load none (.t 17), [0], none⟩⟩,
   ⟨true, ⟨(some 19), .mov (.t 1), [], none⟩⟩,
   ⟨true, ⟨(some 20), .bin .add (.t 19) (.c (.int .i64 (.ofNat 1))), [2], none⟩⟩,
   ⟨true, ⟨(some 21), .call .heap (.f 239) [(.t 18), (.t 20), (.f 241)], [1, 3], none⟩⟩,
   ⟨true, ⟨(some 16), .mov (.t 21), [4], none⟩⟩,
   ⟨true, ⟨(some 22), .extract 0 (.t 16), [5], none⟩⟩,
   ⟨true, ⟨(some 23), .extract 1 (.t 16), [5], none⟩⟩,
   ⟨true, ⟨(some 7), .mov (.t 22), [6, 4, 0, 1, 2, 3, 4, 5, 6], none⟩⟩,
   ⟨true, ⟨(some 8), .mov (.t 23), [7, 8, 0, 1, 2, 3, 4, 5, 6, 7, 8], none⟩⟩] [] 16711938)
 (.seq (.region [⟨true, ⟨(some 24), .faddr 3 (.t 2), [], none⟩⟩,
   ⟨true, ⟨(some 25), .load none (.t 24), [0], none⟩⟩,
   ⟨true, ⟨(some 26), .mov (.t 5), [], none⟩⟩,
   ⟨true, ⟨(some 27), .mov (.t 7), [], none⟩⟩,
   ⟨true, ⟨(some 28), .slice (some 3) (.t 25) (some (.t 26)) (some (.t 27)) none, [1, 2, 3], none⟩⟩,
   ⟨true, ⟨(some 4), .mov (.t 28), [4, 0, 1, 2, 3, 4], none⟩⟩] [] 520093860)
 .ret))))⟩
def f182 : FFn := ⟨28, [.tmp 6, .tmp 7, .tmp 8],
 (.seq (.region [⟨true, ⟨(some 3), .box .dyn (.t 0), [], none⟩⟩,
   ⟨true, ⟨(some 6), .mov (.c (.int .i64 (.ofNat 0))), [], none⟩⟩,
   ⟨true, ⟨(some 7), .mov (.c (.bool false)), [1], none⟩⟩,
   ⟨true, ⟨(some 8), .mov (.c (.int .i64 (.ofNat 0))), [2], none⟩⟩] [] 449)
 (.seq (.seq (.region [⟨true, ⟨(some 10), .load (some 4) (.t 3), [], none⟩⟩,
   ⟨true, ⟨(some 11), .mov (.t 1), [], none⟩⟩,
   ⟨true, ⟨(some 12), .call .heap (.f 180) [(.t 10), (.t 11)], [0, 1], none⟩⟩,
   ⟨true, ⟨(some 8), .mov (.t 12), [2, 2, 0, 1, 2], none⟩⟩] [] 7168)
 (.seq (.region [⟨true, ⟨(some 13), .mov (.t 8), [], none⟩⟩,
   ⟨true, ⟨(some 14), .bin .neq (.t 13) (.c (.int .i64 (.ofNat 0))), [0], none⟩⟩] [] 8192)
 (.cond (.t 14)
  (.seq (.region [⟨true, ⟨(some 15), .mov (.t 8), [], none⟩⟩,
    ⟨true, ⟨(some 6), .mov (.c (.int .i64 (.ofNat 0))), [], none⟩⟩,
    ⟨true, ⟨(some 7), .mov (.c (.bool false)), [1, 1], none⟩⟩,
    ⟨false, ⟨(some 8), .mov (.t 15), [0, 2, 0, 1, 2], none⟩⟩] [] 49166)
  .ret)
  .skip)))
 (.seq (.seq (.region [⟨true, ⟨(some 16), .faddr 0 (.t 3), [], none⟩⟩,
   ⟨true, ⟨(some 17), .load none (.t 16), [0], none⟩⟩,
   ⟨true, ⟨(some 18), .mov (.t 2), [], none⟩⟩,
   ⟨true, ⟨(some 19), .call .heap (.f 169) [(.t 17), (.t 18)], [1, 2], none⟩⟩,
   ⟨true, ⟨(some 20), .un .not (.t 19), [3], none⟩⟩] [] 999872)
 (.cond (.t 20)
  (.seq (.region [⟨true, ⟨(some 6), .mov (.c (.int .i64 (.ofNat 0))), [], none⟩⟩,
    ⟨true, ⟨(some 7), .mov (.c (.bool false)), [0, 0], none⟩⟩,
    ⟨true, ⟨(some 8), .mov (.c (.int .i64 (.ofNat 9))), [1, 0, 1], none⟩⟩] [] 1048590)
  .ret)
  .skip))
 (.seq (.seq (.region [⟨true, ⟨(some 21), .load (some 4) (.t 3), [], none⟩⟩,
   ⟨true, ⟨(some 22), .mov (.t 1), [], none⟩⟩,
   ⟨true, ⟨(some 23), .mov (.t 2), [], none⟩⟩,
   ⟨true, ⟨(some 24), .call .heap (.f 173) [(.t 21), (.t 22), (.t 23)], [0, 1, 2], none⟩⟩,
   ⟨true, ⟨(some 9), .mov (.t 24), [3, 3, 0, 1, 2, 3], none⟩⟩] [] 32506318)
 (.seq (.region [⟨true, ⟨(some 25), .mov (.t 9), [], none⟩⟩,
   ⟨true, ⟨(some 26), .bin .geq (.t 25) (.c (.int .i64 (.ofNat 0))), [0], none⟩⟩] [] 33554432)
 (.cond (.t 26)
  (.seq (.region [⟨true, ⟨(some 27), .mov (.t 9), [], none⟩⟩,
    ⟨true, ⟨(some 6), .mov (.t 27), [0, 0], none⟩⟩,
    ⟨true, ⟨(some 7), .mov (.c (.bool true)), [1, 0, 1], none⟩⟩,
    ⟨true, ⟨(some 8), .mov (.c (.int .i64 (.ofNat 0))), [2, 0, 1, 2], none⟩⟩] [] 201327104)
  .ret)
  .skip)))
 (.seq (.region [⟨false, ⟨(some 6), .mov (.c (.int .i64 (.ofNat 0))), [], none⟩⟩,
   ⟨false, ⟨(some 7), .mov (.c (.bool false)), [0, 0], none⟩⟩,
   ⟨false, ⟨(some 8), .mov (.c (.int .i64 (.ofNat 0))), [1, 0, 1], none⟩⟩] [] 67109376)
 .ret)))))⟩
def f191 : FFn := ⟨19, [.tmp 2],
 (.seq (.region [⟨true, ⟨(some 2), .mov (.c (.int .i64 (.ofNat 0))), [], none⟩⟩] [] 0)
 (.seq (.seq (.region [⟨true, ⟨(some 3), .mov (.t 0), [], none⟩⟩,
   ⟨true, ⟨(some 4), .bin .geq (.t 3) (.c (.int .u32 (.ofNat 65536))), [0], none⟩⟩] [] 8)
 (.cond (.t 4)
  (.seq (.region [⟨true, ⟨(some 5), .mov (.t 0), [], none⟩⟩,
    ⟨true, ⟨(some 6), .bin .shr (.t 5) (.c (.int .u64 (.ofNat 16))), [0], none⟩⟩,
    ⟨false, ⟨(some 0), .mov (.t 6), [1, 0, 1], none⟩⟩] [] 116)
  (.region [⟨true, ⟨(some 2), .mov (.c (.int .i64 (.ofNat 16))), [], none⟩⟩] [] 0))
  .skip))
 (.seq (.seq (.region [⟨true, ⟨(some 7), .mov (.t 0), [], none⟩⟩,
   ⟨true, ⟨(some 8), .bin .geq (.t 7) (.c (.int .u32 (.ofNat 256))), [0], none⟩⟩] [] 144)
 (.cond (.t 8)
  (.seq (.region [⟨true, ⟨(some 9), .mov (.t 0), [], none⟩⟩,
    ⟨true, ⟨(some 10), .bin .shr (.t 9) (.c (.int .u64 (.ofNat 8))), [0], none⟩⟩,
    ⟨false, ⟨(some 0), .mov (.t 10), [1, 0, 1], none⟩⟩] [] 1792)
  (.region [⟨true, ⟨(some 11), .mov (.t 2), [], none⟩⟩,
    ⟨true, ⟨(some 12), .bin .add (.t 11) (.c (.int .i64 (.ofNat 8))), [0], none⟩⟩,
    ⟨false, ⟨(some 2), .mov (.t 12), [1, 0, 1], none⟩⟩] [] 6144))
  .skip))
 (.seq (.region [⟨true, ⟨(some 13), .mov (.t 2), [], none⟩⟩,
   ⟨true, ⟨(some 14), .mov (.t 0), [], none⟩⟩,
   ⟨true, ⟨(some 15), .conv .u8 (.t 14), [1], none⟩⟩,
   ⟨true, ⟨(some 16), .index none (.c (.str [0, 1, 2, 2, 3, 3, 3, 3, 4, 4, 4, 4, 4, 4, 4, 4, 5, 5, 5, 5, 5, 5, 5, 5, 5, 5, 5, 5, 5, 5, 5, 5, 6, 6, 6, 6, 6, 6, 6, 6, 6, 6, 6, 6, 6, 6, 6, 6, 6, 6, 6, 6, 6, 6, 6, 6, 6, 6, 6, 6, 6, 6, 6, 6, 7, 7, 7, 7, 7, 7, 7, 7, 7, 7, 7, 7, 7, 7, 7, 7, 7, 7, 7, 7, 7, 7, 7, 7, 7, 7, 7, 7, 7, 7, 7, 7, 7, 7, 7, 7, 7, 7, 7, 7, 7, 7, 7, 7, 7, 7, 7, 7, 7, 7, 7, 7, 7, 7, 7, 7, 7, 7, 7, 7, 7, 7, 7, 7, 8, 8, 8, 8, 8, 8, 8, 8, 8, 8, 8, 8, 8, 8, 8, 8, 8, 8, 8, 8, 8, 8, 8, 8, 8, 8, 8, 8, 8, 8, 8, 8, 8, 8, 8, 8, 8, 8, 8, 8, 8, 8, 8, 8, 8, 8, 8, 8, 8, 8, 8, 8, 8, 8, 8, 8, 8, 8, 8, 8, 8, 8, 8, 8, 8, 8, 8, 8, 8, 8, 8, 8, 8, 8, 8, 8, 8, 8, 8, 8, 8, 8, 8, 8, 8, 8, 8, 8, 8, 8, 8, 8, 8, 8, 8, 8, 8, 8, 8, 8, 8, 8, 8, 8, 8, 8, 8, 8, 8, 8, 8, 8, 8, 8, 8, 8, 8, 8, 8, 8, 8, 8, 8, 8, 8, 8, 8, 8])) (.t 15), [2], none⟩⟩,
   ⟨true, ⟨(some 17), .conv .i64 (.t 16), [3], none⟩⟩,
   ⟨true, ⟨(some 18), .bin .add (.t 13) (.t 17), [0, 4], none⟩⟩,
   ⟨false, ⟨(some 2), .mov (.t 18), [5, 0, 1, 2, 3, 4, 5], none⟩⟩] [] 516353)
 .ret))))⟩
def f192 : FFn := ⟨25, [.tmp 2],
 (.seq (.region [⟨true, ⟨(some 2), .mov (.c (.int .i64 (.ofNat 0))), [], none⟩⟩] [] 0)
 (.seq (.seq (.region [⟨true, ⟨(some 3), .mov (.t 0), [], none⟩⟩,
   ⟨true, ⟨(some 4), .bin .geq (.t 3) (.c (.int .u64 (.ofNat 4294967296))), [0], none⟩⟩] [] 8)
 (.cond (.t 4)
  (.seq (.region [⟨true, ⟨(some 5), .mov (.t 0), [], none⟩⟩,
    ⟨true, ⟨(some 6), .bin .shr (.t 5) (.c (.int .u64 (.ofNat 32))), [0], none⟩⟩,
    ⟨false, ⟨(some 0), .mov (.t 6), [1, 0, 1], none⟩⟩] [] 116)
  (.region [⟨true, ⟨(some 2), .mov (.c (.int .i64 (.ofNat 32))), [], none⟩⟩] [] 0))
  .skip))
 (.seq (.seq (.region [⟨true, ⟨(some 7), .mov (.t 0), [], none⟩⟩,
   ⟨true, ⟨(some 8), .bin .geq (.t 7) (.c (.int .u64 (.ofNat 65536))), [0], none⟩⟩] [] 144)
 (.cond (.t 8)
  (.seq (.region [⟨true, ⟨(some 9), .mov (.t 0), [], none⟩⟩,
    ⟨true, ⟨(some 10), .bin .shr (.t 9) (.c (.int .u64 (.ofNat 16))), [0], none⟩⟩,
    ⟨false, ⟨(some 0), .mov (.t 10), [1, 0, 1], none⟩⟩] [] 1792)
  (.region [⟨true, ⟨(some 11), .mov (.t 2), [], none⟩⟩,
    ⟨true, ⟨(some 12), .bin .add (.t 11) (.c (.int .i64 (.ofNat 16))), [0], none⟩⟩,
    ⟨false, ⟨(some 2), .mov (.t 12), [1, 0, 1], none⟩⟩] [] 6144))
  .skip))
 (.seq (.seq (.region [⟨true, ⟨(some 13), .mov (.t 0), [], none⟩⟩,
   ⟨true, ⟨(some 14), .bin .geq (.t 13) (.c (.int .u64 (.ofNat 256))), [0], none⟩⟩] [] 8448)
 (.cond (.t 14)
  (.seq (.region [⟨true, ⟨(some 15), .mov (.t 0), [], none⟩⟩,
    ⟨true, ⟨(some 16), .bin .shr (.t 15) (.c (.int .u64 (.ofNat 8))), [0], none⟩⟩,
    ⟨false, ⟨(some 0), .mov (.t 16), [1, 0, 1], none⟩⟩] [] 114688)
  (.region [⟨true, ⟨(some 17), .mov (.t 2), [], none⟩⟩,
    ⟨true, ⟨(some 18), .bin .add (.t 17) (.c (.int .i64 (.ofNat 8))), [0], none⟩⟩,
    ⟨false, ⟨(some 2), .mov (.t 18), [1, 0, 1], none⟩⟩] [] 393216))
  .skip))
 (.seq (.region [⟨true, ⟨(some 19), .mov (.t 2), [], none⟩⟩,
   ⟨true, ⟨(some 20), .mov (.t 0), [], none⟩⟩,
   ⟨true, ⟨(some 21), .conv .u8 (.t 20), [1], none⟩⟩,
   ⟨true, ⟨(some 22), .index none (.c (.str [0, 1, 2, 2, 3, 3, 3, 3, 4, 4, 4, 4, 4, 4, 4, 4, 5, 5, 5, 5, 5, 5, 5, 5, 5, 5, 5, 5, 5, 5, 5, 5, 6, 6, 6, 6, 6, 6, 6, 6, 6, 6, 6, 6, 6, 6, 6, 6, 6, 6, 6, 6, 6, 6, 6, 6, 6, 6, 6, 6, 6, 6, 6, 6, 7, 7, 7, 7, 7, 7, 7, 7, 7, 7, 7, 7, 7, 7, 7, 7, 7, 7, 7, 7, 7, 7, 7, 7, 7, 7, 7, 7, 7, 7, 7, 7, 7, 7, 7, 7, 7, 7, 7, 7, 7, 7, 7, 7, 7, 7, 7, 7, 7, 7, 7, 7, 7, 7, 7, 7, 7, 7, 7, 7, 7, 7, 7, 7, 8, 8, 8, 8, 8, 8, 8, 8, 8, 8, 8, 8, 8, 8, 8, 8, 8, 8, 8, 8, 8, 8, 8, 8, 8, 8, 8, 8, 8, 8, 8, 8, 8, 8, 8, 8, 8, 8, 8, 8, 8, 8, 8, 8, 8, 8, 8, 8, 8, 8, 8, 8, 8, 8, 8, 8, 8, 8, 8, 8, 8, 8, 8, 8, 8, 8, 8, 8, 8, 8, 8, 8, 8, 8, 8, 8, 8, 8, 8, 8, 8, 8, 8, 8, 8, 8, 8, 8, 8, 8, 8, 8, 8, 8, 8, 8, 8, 8, 8, 8, 8, 8, 8, 8, 8, 8, 8, 8, 8, 8, 8, 8, 8, 8, 8, 8, 8, 8, 8, 8, 8, 8, 8, 8, 8, 8, 8, 8])) (.t 21), [2], none⟩⟩,
   ⟨true, ⟨(some 23), .conv .i64 (.t 22), [3], none⟩⟩,
   ⟨true, ⟨(some 24), .bin .add (.t 19) (.t 23), [0, 4], none⟩⟩,
   ⟨false, ⟨(some 2), .mov (.t 24), [5, 0, 1, 2, 3, 4, 5], none⟩⟩] [] 33046529)
 .ret)))))⟩
def f205 : FFn := ⟨54, [.tmp 4],
 (.seq (.region [⟨true, ⟨(some 4), .mov (.c (.str [])), [], none⟩⟩] [] 16)
 (.seq (.seq (.region [⟨true, ⟨(some 10), .mov (.t 1), [], none⟩⟩,
   ⟨true, ⟨(some 11), .bin .eql (.t 10) (.c (.int .i64 (.ofNat 10))), [0], none⟩⟩] [] 1024)
 (.cond (.t 11)
  (.seq (.seq (.region [⟨true, ⟨(some 12), .mov (.t 0), [], none⟩⟩,
    ⟨true, ⟨(some 13), .bin .leq (.c (.int .i64 (.ofNat 0))) (.t 12), [0], none⟩⟩,
    ⟨true, ⟨(some 14), .mov (.t 13), [1], none⟩⟩,
    ⟨true, ⟨(some 15), .mov (.t 0), [2], (some (14, true))⟩⟩,
    ⟨true, ⟨(some 16), .bin .lss (.t 15) (.c (.int .i64 (.ofNat 100))), [3, 2], (some (14, true))⟩⟩,
    ⟨true, ⟨(some 17), .pick (.t 14) (.t 16) (.c (.bool false)), [2, 4], none⟩⟩] [] 129026)
  (.cond (.t 17)
   (.seq (.region [⟨true, ⟨(some 18), .mov (.t 0), [], none⟩⟩,
     ⟨true, ⟨(some 19), .call .heap (.f 252) [(.t 18)], [0], none⟩⟩,
     ⟨true, ⟨(some 4), .mov (.t 19), [1, 1, 0, 1], none⟩⟩] [] 917505)
   .ret)
   .skip))
  (.seq (.region [⟨true, ⟨(some 5), .alloc .dyn (.agg [(.int .u8 (.ofNat 0)), (.int .u8 (.ofNat 0)), (.int .u8 (.ofNat 0)), (.int .u8 (.ofNat 0)), (.int .u8 (.ofNat 0)), (.int .u8 (.ofNat 0)), (.int .u8 (.ofNat 0)), (.int .u8 (.ofNat 0)), (.int .u8 (.ofNat 0)), (.int .u8 (.ofNat 0)), (.int .u8 (.ofNat 0)), (.int .u8 (.ofNat 0)), (.int .u8 (.ofNat 0)), (.int .u8 (.ofNat 0)), (.int .u8 (.ofNat 0)), (.int .u8 (.ofNat 0)), (.int .u8 (.ofNat 0)), (.int .u8 (.ofNat 0)), (.int .u8 (.ofNat 0)), (.int .u8 (.ofNat 0)), (.int .u8 (.ofNat 0)), (.int .u8 (.ofNat 0)), (.int .u8 (.ofNat 0)), (.int .u8 (.ofNat 0))]), [], none⟩⟩] [] 131088)
  (.seq (.region [⟨true, ⟨(some 20), .mov (.t 0), [], none⟩⟩,
    ⟨true, ⟨(some 21), .conv .u64 (.t 20), [0], none⟩⟩,
    ⟨true, ⟨(some 6), .mov (.t 21), [1, 0, 1], none⟩⟩] [] 3145728)
  (.seq (.seq (.region [⟨true, ⟨(some 22), .mov (.t 0), [], none⟩⟩,
    ⟨true, ⟨(some 23), .bin .lss (.t 22) (.c (.int .i64 (.ofNat 0))), [0], none⟩⟩] [] 4194304)
  (.cond (.t 23)
   (.region [⟨true, ⟨(some 24), .mov (.t 6), [], none⟩⟩,
     ⟨true, ⟨(some 25), .un .neg (.t 24), [0], none⟩⟩,
     ⟨false, ⟨(some 6), .mov (.t 25), [1, 0, 1], none⟩⟩] [] 58720256)
   .skip))
  (.seq (.region [⟨true, ⟨(some 26), .mov (.t 6), [], none⟩⟩,
    ⟨true, ⟨(some 27), .call .heap (.f 253) [(.t 26)], [0], none⟩⟩,
    ⟨true, ⟨(some 7), .mov (.t 27), [1, 1, 0, 1], none⟩⟩] [] 209715200)
  (.seq (.region [⟨true, ⟨(some 28), .mov (.t 7), [], none⟩⟩,
    ⟨true, ⟨(some 29), .bin .add (.c (.int .i64 (.ofNat 1))) (.t 28), [0], none⟩⟩,
    ⟨true, ⟨(some 30), .bad, [1], none⟩⟩,
    ⟨true, ⟨(some 31), .mov (.t 6), [], none⟩⟩,
    ⟨true, ⟨(some 32), .call .heap (.f 254) [(.t 30), (.t 31)], [2, 3], none⟩⟩] [] 8321499200)
  (.seq (.seq (.region [⟨true, ⟨(some 33), .mov (.t 0), [], none⟩⟩,
    ⟨true, ⟨(some 34), .bin .lss (.t 33) (.c (.int .i64 (.ofNat 0))), [0], none⟩⟩] [] 8589934593)
  (.cond (.t 34)
   (.seq (.region [⟨true, ⟨(some 35), .iaddr (some 24) 1 (.t 5) (.c (.int .i64 (.ofNat 0))), [], none⟩⟩,
     ⟨false, ⟨none, .store 1 (.t 35) (.c (.int .u8 (.ofNat 45))), [0], none⟩⟩] [] 51539607584)
   (.seq (.region [⟨true, ⟨(some 36), .mov (.t 7), [], none⟩⟩,
     ⟨true, ⟨(some 37), .bin .add (.c (.int .i64 (.ofNat 1))) (.t 36), [0], none⟩⟩,
     ⟨true, ⟨(some 38), .bad, [1], none⟩⟩,
     ⟨true, ⟨(some 39), .convB (.t 38), [2], none⟩⟩,
     ⟨true, ⟨(some 4), .mov (.t 39), [3, 0, 1, 2, 3], none⟩⟩] [] 1030792151168)
   .ret))
   .skip))
  (.seq (.region [⟨true, ⟨(some 40), .mov (.t 7), [], none⟩⟩,
    ⟨true, ⟨(some 41), .bin .add (.c (.int .i64 (.ofNat 1))) (.t 40), [0], none⟩⟩,
    ⟨true, ⟨(some 42), .bad, [1], none⟩⟩,
    ⟨true, ⟨(some 43), .convB (.t 42), [2], none⟩⟩,
    ⟨false, ⟨(some 4), .mov (.t 43), [3, 0, 1, 2, 3], none⟩⟩] [] 16509854285984)
  .ret))))))))
  .skip))
 (.seq (.region [⟨true, ⟨(some 45), .mov (.t 0), [], none⟩⟩,
   ⟨true, ⟨(some 46), .conv .u64 (.t 45), [0], none⟩⟩,
   ⟨true, ⟨(some 47), .mov (.t 1), [], none⟩⟩,
   ⟨true, ⟨(some 48), .mov (.t 0), [], none⟩⟩,
   ⟨true, ⟨(some 49), .bin .lss (.t 48) (.c (.int .i64 (.ofNat 0))), [3], none⟩⟩,
   ⟨true, ⟨(some 50), .call .heap (.f 255) [(.c .nilsl), (.t 46), (.t 47), (.t 49), (.c (.bool false))], [1, 2, 4], none⟩⟩,
   ⟨true, ⟨(some 44), .mov (.t 50), [5], none⟩⟩,
   ⟨true, ⟨(some 51), .extract 0 (.t 44), [6], none⟩⟩,
   ⟨true, ⟨(some 52), .extract 1 (.t 44), [6], none⟩⟩,
   ⟨true, ⟨(some 8), .mov (.t 51), [7, 5, 0, 1, 2, 3, 4, 5, 6, 7], none⟩⟩,
   ⟨true, ⟨(some 9), .mov (.t 52), [8, 9, 0, 1, 2, 3, 4, 5, 6, 7, 8, 9], none⟩⟩] [] 8989607068698899)
 (.seq (.region [⟨true, ⟨(some 53), .mov (.t 9), [], none⟩⟩,
   ⟨true, ⟨(some 4), .mov (.t 53), [0, 0], none⟩⟩] [] 9007199254741504)
 .ret))))⟩
def f206 : FFn := ⟨49, [],
 (.seq (.region [⟨true, ⟨(some 8), .mov (.t 1), [], none⟩⟩,
   ⟨true, ⟨(some 9), .bin .add (.t 8) (.c (.int .i64 (.ofNat 1))), [0], none⟩⟩,
   ⟨true, ⟨(some 6), .mov (.t 9), [1, 0, 1], none⟩⟩] [] 768)
 (.block 0 (.loop (.seq (.seq (.region [⟨true, ⟨(some 10), .mov (.t 6), [], none⟩⟩,
   ⟨true, ⟨(some 11), .mov (.t 2), [], none⟩⟩,
   ⟨true, ⟨(some 12), .bin .lss (.t 10) (.t 11), [0, 1], none⟩⟩] [] 3072)
 (.cond (.t 12)
  .skip
  (.exit 0)))
 (.seq (.block 1 (.seq (.region [⟨true, ⟨(some 15), .mov (.t 6), [], none⟩⟩,
   ⟨true, ⟨(some 7), .mov (.t 15), [0, 0], none⟩⟩] [] 36864)
 (.block 2 (.loop (.seq (.seq (.region [⟨true, ⟨(some 16), .mov (.t 7), [], none⟩⟩,
   ⟨true, ⟨(some 17), .mov (.t 1), [], none⟩⟩,
   ⟨true, ⟨(some 18), .bin .gtr (.t 16) (.t 17), [0, 1], none⟩⟩,
   ⟨true, ⟨(some 19), .mov (.t 18), [2], none⟩⟩,
   ⟨false, ⟨(some 20), .mov (.t 0), [3], (some (19, true))⟩⟩,
   ⟨false, ⟨(some 21), .mov (.t 7), [3], (some (19, true))⟩⟩,
   ⟨false, ⟨(some 22), .iaddr none 1 (.t 20) (.t 21), [4, 5, 3], (some (19, true))⟩⟩,
   ⟨false, ⟨(some 23), .load none (.t 22), [6, 3], (some (19, true))⟩⟩,
   ⟨false, ⟨(some 24), .mov (.t 0), [3], (some (19, true))⟩⟩,
   ⟨false, ⟨(some 25), .mov (.t 7), [3], (some (19, true))⟩⟩,
   ⟨false, ⟨(some 26), .bin .sub (.t 25) (.c (.int .i64 (.ofNat 1))), [9, 3], (some (19, true))⟩⟩,
   ⟨false, ⟨(some 27), .iaddr none 1 (.t 24) (.t 26), [8, 10, 3], (some (19, true))⟩⟩,
   ⟨false, ⟨(some 28), .load none (.t 27), [11, 3], (some (19, true))⟩⟩,
   ⟨false, ⟨(some 29), .call .heap (.f 212) [(.t 23), (.t 28)], [7, 12, 3, 3], (some (19, true))⟩⟩,
   ⟨true, ⟨(some 30), .pick (.t 19) (.t 29) (.c (.bool false)), [3, 13], none⟩⟩] [] 983040)
 (.cond (.t 30)
  .skip
  (.exit 2)))
 (.seq (.block 3 (.region [⟨true, ⟨(some 33), .mov (.t 0), [], none⟩⟩,
   ⟨true, ⟨(some 34), .mov (.t 7), [], none⟩⟩,
   ⟨true, ⟨(some 35), .mov (.t 0), [], none⟩⟩,
   ⟨true, ⟨(some 36), .mov (.t 7), [], none⟩⟩,
   ⟨true, ⟨(some 37), .bin .sub (.t 36) (.c (.int .i64 (.ofNat 1))), [3], none⟩⟩,
   ⟨true, ⟨(some 38), .mov (.t 0), [], none⟩⟩,
   ⟨true, ⟨(some 39), .mov (.t 7), [], none⟩⟩,
   ⟨true, ⟨(some 40), .bin .sub (.t 39) (.c (.int .i64 (.ofNat 1))), [6], none⟩⟩,
   ⟨true, ⟨(some 41), .iaddr none 1 (.t 38) (.t 40), [5, 7], none⟩⟩,
   ⟨true, ⟨(some 42), .load none (.t 41), [8], none⟩⟩,
   ⟨true, ⟨(some 43), .mov (.t 0), [], none⟩⟩,
   ⟨true, ⟨(some 44), .mov (.t 7), [], none⟩⟩,
   ⟨true, ⟨(some 45), .iaddr none 1 (.t 43) (.t 44), [10, 11], none⟩⟩,
   ⟨true, ⟨(some 46), .load none (.t 45), [12], none⟩⟩,
   ⟨true, ⟨(some 47), .iaddr none 1 (.t 33) (.t 34), [0, 1, 0, 1, 5, 6, 7, 8, 9, 13], none⟩⟩,
   ⟨false, ⟨none, .store 1 (.t 47) (.t 42), [14, 9, 0, 1, 5, 6, 7, 8, 9, 13], none⟩⟩,
   ⟨true, ⟨(some 48), .iaddr none 1 (.t 35) (.t 37), [2, 4, 0, 1, 2, 3, 4, 5, 6, 7, 8, 9, 10, 11, 12, 13, 14, 15], none⟩⟩,
   ⟨false, ⟨none, .store 1 (.t 48) (.t 46), [16, 13, 15, 0, 1, 2, 3, 4, 5, 6, 7, 8, 9, 10, 11, 12, 13, 14, 15], none⟩⟩] [] 562942437228544))
 (.region [⟨true, ⟨(some 31), .mov (.t 7), [], none⟩⟩,
   ⟨true, ⟨(some 32), .bin .sub (.t 31) (.c (.int .i64 (.ofNat 1))), [0], none⟩⟩,
   ⟨false, ⟨(some 7), .mov (.t 32), [1, 0, 1], none⟩⟩] [] 6442450944)))))))
 (.region [⟨true, ⟨(some 13), .mov (.t 6), [], none⟩⟩,
   ⟨true, ⟨(some 14), .bin .add (.t 13) (.c (.int .i64 (.ofNat 1))), [0], none⟩⟩,
   ⟨false, ⟨(some 6), .mov (.t 14), [1, 0, 1], none⟩⟩] [] 24704))))))⟩
def f212 : FFn := ⟨17, [.tmp 4],
 (.seq (.region [⟨true, ⟨(some 4), .mov (.c (.bool false)), [], none⟩⟩] [] 16)
 (.seq (.region [⟨true, ⟨(some 5), .mov (.t 0), [], none⟩⟩,
   ⟨true, ⟨(some 6), .call .heap (.f 259) [(.t 5)], [0], none⟩⟩,
   ⟨true, ⟨(some 7), .mov (.t 6), [1, 1], none⟩⟩,
   ⟨true, ⟨(some 8), .mov (.t 1), [2], (some (7, true))⟩⟩,
   ⟨true, ⟨(some 9), .call .heap (.f 259) [(.t 8)], [3, 2, 2], (some (7, true))⟩⟩,
   ⟨true, ⟨(some 10), .un .not (.t 9), [4, 2], (some (7, true))⟩⟩,
   ⟨true, ⟨(some 11), .pick (.t 7) (.t 10) (.c (.bool false)), [2, 5], none⟩⟩,
   ⟨true, ⟨(some 12), .mov (.t 11), [6, 4], none⟩⟩,
   ⟨true, ⟨(some 13), .mov (.t 0), [7], (some (12, false))⟩⟩,
   ⟨true, ⟨(some 14), .mov (.t 1), [7], (some (12, false))⟩⟩,
   ⟨true, ⟨(some 15), .bin .lss (.t 13) (.t 14), [8, 9, 7], (some (12, false))⟩⟩,
   ⟨true, ⟨(some 16), .pick (.t 12) (.c (.bool true)) (.t 15), [7, 10], none⟩⟩,
   ⟨true, ⟨(some 4), .mov (.t 16), [11, 7, 0, 1, 2, 3, 4, 5, 6, 7, 8, 9, 10, 11], none⟩⟩] [] 131043)
 .ret))⟩
def f217 : FFn := ⟨22, [.tmp 2],
 (.seq (.region [⟨true, ⟨(some 1), .box .dyn (.t 0), [], none⟩⟩,
   ⟨true, ⟨(some 2), .mov (.c (.int .i64 (.ofNat 0))), [], none⟩⟩] [] 5)
 (.seq (.seq (.region [⟨true, ⟨(some 5), .faddr 4 (.t 1), [], none⟩⟩,
   ⟨true, ⟨(some 6), .load none (.t 5), [0], none⟩⟩,
   ⟨true, ⟨(some 7), .call .heap (.f 54) [(.t 6)], [1], none⟩⟩,
   ⟨true, ⟨(some 3), .mov (.t 7), [2, 2, 0, 1, 2], none⟩⟩] [] 224)
 (.seq (.region [⟨true, ⟨(some 8), .mov (.t 3), [], none⟩⟩,
   ⟨true, ⟨(some 9), .bin .neq (.t 8) (.c (.int .i64 (.ofNat 0))), [0], none⟩⟩] [] 256)
 (.cond (.t 9)
  (.seq (.region [⟨true, ⟨(some 10), .mov (.t 3), [], none⟩⟩,
    ⟨true, ⟨(some 2), .mov (.t 10), [0, 0], none⟩⟩] [] 1546)
  .ret)
  .skip)))
 (.seq (.seq (.region [⟨true, ⟨(some 11), .faddr 0 (.t 1), [], none⟩⟩,
   ⟨true, ⟨(some 12), .load (some 4) (.t 11), [0], none⟩⟩,
   ⟨true, ⟨(some 13), .call .heap (.f 67) [(.t 12)], [1], none⟩⟩,
   ⟨true, ⟨(some 4), .mov (.t 13), [2, 2, 0, 1, 2], none⟩⟩] [] 14860)
 (.seq (.region [⟨true, ⟨(some 14), .mov (.t 4), [], none⟩⟩,
   ⟨true, ⟨(some 15), .bin .neq (.t 14) (.c (.int .i64 (.ofNat 0))), [0], none⟩⟩] [] 16384)
 (.cond (.t 15)
  (.seq (.region [⟨true, ⟨(some 16), .mov (.t 4), [], none⟩⟩,
    ⟨true, ⟨(some 2), .mov (.t 16), [0, 0], none⟩⟩] [] 98322)
  .ret)
  .skip)))
 (.seq (.seq (.region [⟨true, ⟨(some 17), .faddr 0 (.t 1), [], none⟩⟩,
   ⟨true, ⟨(some 18), .faddr 0 (.t 17), [0], none⟩⟩,
   ⟨true, ⟨(some 19), .load none (.t 18), [1], none⟩⟩,
   ⟨true, ⟨(some 20), .mkfn 261 [] [(.t 1)], [], none⟩⟩,
   ⟨true, ⟨(some 21), .call .heap (.f 98) [(.t 19), (.t 20)], [2, 3], none⟩⟩] [] 1998870)
 (.cond (.t 21)
  (.seq (.region [⟨true, ⟨(some 2), .mov (.c (.int .i64 (.ofNat 2))), [], none⟩⟩] [] 2097152)
  .ret)
  .skip))
 (.seq (.region [⟨false, ⟨(some 2), .mov (.c (.int .i64 (.ofNat 0))), [], none⟩⟩] [] 2097152)
 .ret)))))⟩
end Go.AM.IP
